/- Lemmas of this claim. -/
import Derived.Test.YtgllcniibbaoaaaGreatDoorJ09
import Derived.Test.YtgllcniibbaoaaaGreatDoorJ10
set_option linter.all false
set_option maxRecDepth 100000
set_option maxHeartbeats 24000000
namespace Go.Proofs.YtgllcniibbaoaaaGreatDoor
open Go.Proofs.Tryz
open Go.Lib (hid)
open Go.RowKit
def mkC(l:List (Nat×List UInt8)):List Value:=l.flatMap fun m=>[.int .i64 (m.1:Nat),.string ⟨m.2.toArray⟩]
def OwC(w:World)(l:List Nat)(v:Value):Prop:=w.ownsRow 0 3 1 v l.length (l.map fun(n:Nat)=>Value.int .i64 n)
def OwM(w:World)(l:List (Nat×List UInt8))(v:Value):Prop:=w.ownsRow 0 95 2 v l.length (mkC l)
structure Br(b:Nat)(l:List UInt8)(s:RxS)(S:Nat→Prop)(cv mv:Value)(w:World):Prop where
 blk:w.heap[b]? =some (.cells #[.string ⟨l.toArray⟩,.int .i64 s.at_,.int .i64 s.opened,cv,mv] 83 (0,0))
 cl:OwC w s.closed cv
 ma:OwM w s.marks mv
 nc:∀k,cv.ownBlock=some k→k≠b∧S k
 nm:∀k,mv.ownBlock=some k→k≠b∧S k
 ne:∀k,cv.ownBlock=some k→mv.ownBlock≠some k
 me:S b
def Rdg(b:Nat)(l:List UInt8)(s:RxS)(S:Nat→Prop)(w:World):Prop:=∃cv mv,Br b l s S cv mv w
structure Stp(S:Nat→Prop)(w:World)(S':Nat→Prop)(w':World):Prop where
 fr:Fr S w w'
 old:∀k,k<w.heap.size→S' k→S k
 lt:(∀k,S k→k<w.heap.size)→∀k,S' k→k<w'.heap.size
theorem Stp.refl(S:Nat→Prop)(w:World):Stp S w S w:=⟨Fr.refl _ _,fun _ _ h=>h,fun h=>h⟩
theorem Stp.trans{S S' S'':Nat→Prop}{w w' w'':World}(h:Stp S w S' w')(k:Stp S' w' S'' w''):Stp S w S'' w'':=
 ⟨h.fr.trans k.fr (fun i hi x=>h.old i hi x),fun i hi x=>h.old i hi (k.old i (Nat.lt_of_lt_of_le hi h.fr.size) x),fun hl=>k.lt (h.lt hl)⟩
theorem Stp.of{S:Nat→Prop}{w w':World}(h:Fr nob w w'):Stp S w S w':=⟨h.any,fun _ _ x=>x,fun hl k hk=>Nat.lt_of_lt_of_le (hl k hk) h.size⟩
def SO(S O:Nat→Prop):Nat→Prop:=fun k=>S k∨O k
theorem Stp.rn{S S' O:Nat→Prop}{w w':World}(h:Stp S w S' w'){t:Nd}{v:Value}(k:RN (SO S O) w t v):RN (SO S' O) w' t v:=RN.keep h.fr (fun _ _ x=>.inl x) (fun i hi x=>x.elim (fun y=>.inl (h.old i hi y)) .inr) t v k
theorem Stp.from{S S':Nat→Prop}{W w w':World}(h:Stp S w S' w')(f:Fr nob W w)(hS:∀k,S k→W.heap.size≤k):Fr nob W w':=
 f.trans h.fr (fun i hi x=>by have:=hS i x;omega)
theorem Br.on{b:Nat}{l:List UInt8}{s:RxS}{S:Nat→Prop}{cv mv:Value}{w w':World}(h:Br b l s S cv mv w)(f:Fr nob w w'):Br b l s S cv mv w':=
 ⟨f.heap h.blk (fun x=>x),ownsRow_fr h.cl f (fun _ _ x=>x),ownsRow_fr h.ma f (fun _ _ x=>x),h.nc,h.nm,h.ne,h.me⟩
theorem Rdg.on{b:Nat}{l:List UInt8}{s:RxS}{S:Nat→Prop}{w w':World}(h:Rdg b l s S w)(f:Fr nob w w'):Rdg b l s S w':=by
 obtain⟨cv,mv,h⟩:=h;exact⟨cv,mv,h.on f⟩
theorem Br.turned{b:Nat}{l:List UInt8}{s:RxS}{S:Nat→Prop}{cv mv:Value}{w:World}(h:Br b l s S cv mv w)(j:Nat)(u:Value)(s':RxS)
 (hj:(#[.string ⟨l.toArray⟩,.int .i64 s.at_,.int .i64 s.opened,cv,mv]:Array Value).setIfInBounds j u= #[.string ⟨l.toArray⟩,.int .i64 s'.at_,.int .i64 s'.opened,cv,mv]) (hc:s'.closed=s.closed) (hm:s'.marks=s.marks):
 Br b l s' S cv mv (w.setCell ⟨b,j,none⟩ u):=by
 have hf:=(Fr.refl (fun k=>k=b) w).setCell (p:=⟨b,j,none⟩) (fun _=>rfl) u;have hb:=Za h.blk j u;rw[hj]at hb;exact⟨hb,by rw[hc];exact ownsRow_fr h.cl hf (fun k hk e=>(h.nc k hk).1 e),by rw[hm];exact ownsRow_fr h.ma hf (fun k hk e=>(h.nm k hk).1 e),h.nc,h.nm,h.ne,h.me⟩
theorem Br.stp{b:Nat}{l:List UInt8}{s:RxS}{S:Nat→Prop}{cv mv:Value}{w:World}(h:Br b l s S cv mv w)(j:Nat)(u:Value):Stp S w S (w.setCell ⟨b,j,none⟩ u):=
 ⟨(Fr.refl S w).setCell (p:=⟨b,j,none⟩) (fun _=>h.me) u,fun _ _ x=>x,fun hl k hk=>by have:=hl k hk;simpa[World.setCell]using this⟩
theorem Zcg(b:Nat)(l t:List UInt8)(s:RxS)(S:Nat→Prop)(w:World)(hl:l.length≤1000000)(ht:t.length≤1000000)(ha:s.at_≤l.length)(h:Rdg b l s S w):
 Calls prog 53 #[.pointer (some ⟨b,0,none⟩),.string ⟨t.toArray⟩] w fun x w'=>x=.returned (.bool (ahd l s.at_ t))∧Fr nob w w':=by
 obtain⟨cv,mv,h⟩:=h;have rr:=Zd h.blk;clear h;have c:(s.at_:Int)≤l.length:=by omega
 have hP:=fun w:World=>ZL (l.drop s.at_) t w (by simp;omega) (by omega);have a:=hid hP;clear hP;go_enter func53,ntmps53;go_wp2_with fail;refine region_fr 10 (by kernel_rfl) (by kernel_rfl) ?_;simp only[List.take_succ_cons,List.take_zero,List.drop_succ_cons,List.drop_zero]
 repeat(quiet_step (fail))
 refine wpQuiet_nil ?_;intro wC fC;go_wp2_with fail;refine(a.out _).mono ?_;rintro e w2 ⟨rfl,rfl⟩;go_wp2;go_ret;exact⟨rfl,fC⟩
theorem ZnV(b:Nat)(l:List UInt8)(s:RxS)(S:Nat→Prop)(w:World)(hl:l.length≤1000000)(h:Rdg b l s S w):
 Calls prog 81 #[.pointer (some ⟨b,0,none⟩)] w fun x w'=>x=.returned (.bool (decide (l.length≤s.at_)))∧Fr nob w w':=by
 obtain⟨cv,mv,h⟩:=h;have rr:=Zd h.blk;clear h;have hd:decide ((l.length:Int)≤(s.at_:Int))=decide (l.length≤s.at_):=by simp
 go_enter func81,ntmps81;go_wp2_with fail;refine region_fr 9 (by kernel_rfl) (by kernel_rfl) ?_;simp only[List.take_succ_cons,List.take_zero,List.drop_succ_cons,List.drop_zero]
 repeat(quiet_step (fail))
 refine wpQuiet_nil ?_;intro wC fC;go_wp2;go_ret;exact⟨ret_bool (by simp),fC⟩
theorem Zko(b:Nat)(l:List UInt8)(s:RxS)(S:Nat→Prop)(w:World)(hl:l.length≤1000000)(ha:s.at_<l.length)(h:Rdg b l s S w):
 Calls prog 83 #[.pointer (some ⟨b,0,none⟩)] w fun x w'=>x=.returned (.bool (ZbL l s.at_))∧Fr nob w w':=by
 obtain⟨cv,mv,h⟩:=h;have rr:=Zd h.blk;clear h;have k:(s.at_:Int)+1≤l.length:=by omega
 have hw:IntKind.i64.wrap ((s.at_:Int)+1)=s.at_+1:=IntWalk.i64_in _ (by omega);obtain⟨R,hR⟩:∃R,l.drop (s.at_+1)=R:=⟨_,rfl⟩;have j:R.length≤1000000:=by rw[←hR,List.length_drop];omega
 have g:=fun w:World=>ZL R [92,41] w (by omega) (by decide);have i:=fun w:World=>ZL R [92,124] w (by omega) (by decide);have d:=hid g;have f:=hid i;clear g i;unfold ZbL ahd;rw[hR];go_enter func83,ntmps83;go_wp2_with fail;refine region_fr 9 (by kernel_rfl) (by kernel_rfl) ?_;simp only[List.take_succ_cons,List.take_zero,List.drop_succ_cons,List.drop_zero]
 repeat(quiet_step (fail))
 refine wpQuiet_nil ?_;intro wC fC;obtain⟨p1,h1⟩:∃p,([92,41]:List UInt8).isPrefixOf R=p:=⟨_,rfl⟩;obtain⟨p2,h2⟩:∃p,([92,124]:List UInt8).isPrefixOf R=p:=⟨_,rfl⟩;rw[h1]at d;rw[h2]at f;have a:(R.isEmpty||([92,41]:List UInt8).isPrefixOf R||([92,124]:List UInt8).isPrefixOf R)=(R.isEmpty||p1||p2):=by rw[h1,h2]
 have c:=hid a;clear h1 h2 a;cases hE:R.isEmpty<;>cases p1<;>cases p2
 all_goals
  rw[hE]at c;go_wp2_with(first|(go_at_call 87;refine(d.out _).mono ?_;rintro e w' ⟨rfl,rfl⟩)|(go_at_call 87;refine(f.out _).mono ?_;rintro e w' ⟨rfl,rfl⟩));go_ret;exact⟨ret_bool (by rw[hE];exact c.out.symm),fC⟩
theorem ZbN(b:Nat)(l t:List UInt8)(s:RxS)(S:Nat→Prop)(w:World)(hl:l.length≤100000)(ht:t.length≤1000)(ha:s.at_≤l.length)(h:Rdg b l s S w):
 Calls prog 80 #[.pointer (some ⟨b,0,none⟩),.string ⟨t.toArray⟩] w fun x w'=>x=.returned (.bool (ahd l s.at_ t))∧Rdg b l (if ahd l s.at_ t then s.go t.length else s) S w'∧Stp S w S w':=by
 have hA:=Zcg b l t s S w (by omega) (by omega) ha h;obtain⟨cv,mv,h⟩:=h;obtain⟨c,hc⟩:∃c,ahd l s.at_ t=c:=⟨_,rfl⟩;rw[hc]at hA⊢;have HB:=hid h;clear h;go_enter func80,ntmps80;go_wp2_with fail;refine hA.mono ?_;rintro e w1 ⟨rfl,f1⟩;have d:=HB.out.on f1;obtain⟨⟨c0,c1,c2,c3,c4⟩,d0,d1,d2,d3,d4⟩:=Zd d.blk _ (Fr.refl _ _);have a:=hid d;have F1:=hid f1;clear d f1;cases c with
 |false=>
  go_wp2;go_ret;exact⟨rfl,⟨cv,mv,a.out⟩,Stp.of F1.out⟩
 |true=>
  go_wp2;go_ret;exact⟨rfl,⟨cv,mv,a.out.turned 1 _ (s.go t.length) (by simp[RxS.go]) rfl rfl⟩,(Stp.of F1.out).trans (a.out.stp 1 _)⟩
def Zkp(e:Int)(p:Nat):List PanicEntry:=[{v:=.iface 79 (.agg #[.int .i64 e,.int .i64 (p:Nat)]),recovered:=false}]
theorem br_fail(e:Int)(p:Nat)(w:World):
 Calls prog 82 #[.int .i64 e,.int .i64 (p:Nat)] w fun x w'=>x=.panicked (Zkp e p)∧w=w':=by
 go_enter func82,ntmps82;go_wp2;exact⟨rfl,rfl,rfl⟩
theorem Zff{l:List UInt8}{k c n:Nat}(h:l.length≤k):ZaQ (l.drop k) c n=(n,c):=by
 rw[List.drop_eq_nil_of_le h];rfl
theorem Zd5{l:List UInt8}{k c n:Nat}(h:k<l.length)(hd:¬(48≤l[k].toNat∧l[k].toNat≤57∧c≠3)):ZaQ (l.drop k) c n=(n,c):=by
 rw[List.drop_eq_getElem_cons h,ZaQ,if_neg hd]
theorem ZfY{l:List UInt8}{k c n:Nat}(h:k<l.length)(hd:48≤l[k].toNat∧l[k].toNat≤57∧c≠3):ZaQ (l.drop k) c n=ZaQ (l.drop (k+1)) (c+1) (n*10+(l[k].toNat-48)):=by
 rw[List.drop_eq_getElem_cons h,ZaQ,if_pos hd]
theorem Zkq:∀(r:List UInt8) (c n:Nat),c≤3→n<10^c→(ZaQ r c n).2≤3∧(ZaQ r c n).1<10^(ZaQ r c n).2∧c≤(ZaQ r c n).2∧(ZaQ r c n).2≤c+r.length
 |[],c,n,h,hn=>⟨h,hn,Nat.le_refl _,by simp[ZaQ]⟩
 |x::r,c,n,h,hn=>by
  rw[ZaQ];split
  ·next hd=>
   have hn2:n*10+(x.toNat-48)<10^(c+1):=by rw[Nat.pow_succ];omega
   have ih:=Zkq r (c+1) (n*10+(x.toNat-48)) (by omega) hn2;refine⟨ih.1,ih.2.1,by omega,?_⟩;have:=ih.2.2.2;rw[List.length_cons];omega
  ·exact⟨h,hn,Nat.le_refl _,by simp⟩
theorem Zfg{S:Nat→Prop}{a w:World}(h:Fr S a w)(s:ByteArray)(p:Nat):Fr S a (w.iter s p):=h.alloc _
def p10(c:Nat):Nat:=10^c
theorem Zih(c:Nat):p10 (c+1)=p10 c*10:=by unfold p10;rw[Nat.pow_succ]
theorem Zkr{c:Nat}(h:c≤3):p10 c≤1000:=by unfold p10;exact Nat.le_trans (Nat.pow_le_pow_right (by omega) h) (by omega)
theorem ZfZ(b:Nat)(l:List UInt8)(s:RxS)(S:Nat→Prop)(w:World)(hl:l.length≤100000)(ha:s.at_≤l.length)(h:Rdg b l s S w):
 Calls prog 136 #[.pointer (some ⟨b,0,none⟩)] w fun x w'=>
  x=.returned (.tuple #[.int .i64 (ZaQ (l.drop s.at_) 0 0).1,.bool (decide (0<(ZaQ (l.drop s.at_) 0 0).2))])∧Rdg b l (s.go (ZaQ (l.drop s.at_) 0 0).2) S w'∧Stp S w S w':=by
 obtain⟨cv,mv,h⟩:=h;have rr:=Zd h.blk;have HB:=hid h;clear h;have B:(s.at_:Int)≤l.length:=by omega
 obtain⟨F,hF⟩:∃F,ZaQ (l.drop s.at_) 0 0=F:=⟨_,rfl⟩;rw[hF];have HF:=hid hF;clear hF;go_enter func136,ntmps136;go_wp2_with fail;refine region_fr 8 (by kernel_rfl) (by kernel_rfl) ?_;simp only[List.take_succ_cons,List.take_zero,List.drop_succ_cons,List.drop_zero]
 repeat(quiet_step (fail))
 refine wpQuiet_nil ?_;intro wC fC;have rc:∀(q:ByteArray) (p:Nat),(wC.iter q p).cell? ⟨b,1,none⟩=some (.int .i64 s.at_)∧(wC.iter q p).frozen? ⟨b,1,none⟩=false:=fun q p=>by
  obtain⟨⟨_,c1,_⟩,_,d1,_⟩:=rr _ (Zfg fC q p);exact⟨c1,d1⟩
 have z:=hid (fun(q:ByteArray) (p:Nat)=>HB.out.on (Zfg fC q p));have FC:=hid fC;clear rr fC;go_wp2_with fail
 go_loopw [4,5] (fun n c wr=>∃m k:Nat,n=.int .i64 m∧c=.int .i64 k∧wr=wC.iter ⟨(l.drop s.at_).toArray⟩ k∧k≤3∧s.at_+k≤l.length∧m<p10 k∧ZaQ (l.drop (s.at_+k)) k m=F) (fun _ c _=>4-(intOf c).toNat)
 case atStart=>exact⟨0,0,rfl,rfl,rfl,by omega,by omega,by decide,HF.out⟩
 case round=>
  obtain⟨m,k,rfl,rfl,rfl,hk,D,hm,hb⟩:=hrel;have fin:∀p,F=(m,k)→Rdg b l (s.go F.2) S ((wC.iter ⟨(l.drop s.at_).toArray⟩ p).setCell ⟨b,1,none⟩ (.int .i64 ((s.at_:Int)+k)))∧Stp S w S ((wC.iter ⟨(l.drop s.at_).toArray⟩ p).setCell ⟨b,1,none⟩ (.int .i64 ((s.at_:Int)+k))):=fun p hF=>by
   subst hF;have h1:=z.out ⟨(l.drop s.at_).toArray⟩ p;exact⟨⟨cv,mv,h1.turned 1 _ (s.go k) (by simp[RxS.go]) rfl rfl⟩,(Stp.of (Zfg FC.out _ p)).trans (h1.stp 1 _)⟩
  have g:=hid fin;clear fin;have hp:=Zkr hk;by_cases o:s.at_+k<l.length
  ·have f:k<(l.drop s.at_).length:=by rw[List.length_drop];omega
   have d:k<(ByteArray.mk (l.drop s.at_).toArray).size:=by rw[Zbp];exact f
   have a:(ByteArray.mk (l.drop s.at_).toArray)[k]'d=l[s.at_+k]:=by rw[Zp6];exact List.getElem_drop
   by_cases hd:48≤l[s.at_+k].toNat∧l[s.at_+k].toNat≤57
   ·obtain⟨i,j⟩:=hd;obtain⟨x,hx⟩:∃x,l[s.at_+k]=x:=⟨_,rfl⟩;have t:∀ty,(Instr.next (.pointer (some ⟨wC.heap.size,0,none⟩)) true ty).run prog (wC.iter ⟨(l.drop s.at_).toArray⟩ k)=.ok (.tuple #[.bool true,.int .i64 k,.int .i32 x.toNat]) (wC.iter ⟨(l.drop s.at_).toArray⟩ (k+1)):=fun ty=>by
     rw[run_next_ascii wC _ k ty d (by rw[a];omega),a,hx]
    by_cases h3:k=3
    ·subst h3;rw[Zd5 o (fun h=>h.2.2 rfl)]at hb;rw[hx]at i j;have t1:decide ((0:Int)<3)=true:=rfl;have hF:=g.out 4 hb.symm;subst hb;have e:=hid hF;obtain⟨v,y⟩:=rc ⟨(l.drop s.at_).toArray⟩ 4;clear f d a hm hF rc hx;go_wp2;go_ret2;exact⟨rfl,e.out⟩
    ·have A:((k:Int)==3)=false:=by simp;omega
     rw[ZfY o ⟨i,j,h3⟩]at hb;rw[hx]at i j hb;have u:=Zih k;have HX:=hid hb;have HP:=hid u;have C:k≤2:=by omega
     have E:m<1000:=by omega
     clear hb f d a h3 u hx rc;go_wp2;go_roundw
     case rel=>exact⟨m*10+(x.toNat-48),k+1,by go_num,by go_num,rfl,by omega,by omega,by rw[HP.out];omega,HX.out⟩
     case measure=>simp[intOf];omega
   ·rw[Zd5 o (fun h=>hd ⟨h.1,h.2.1⟩)]at hb;obtain⟨r,p,hr,t⟩:∃(r:Int) (p:Nat),(r<48∨(48≤r∧57<r))∧∀ty,(Instr.next (.pointer (some ⟨wC.heap.size,0,none⟩)) true ty).run prog (wC.iter ⟨(l.drop s.at_).toArray⟩ k)=.ok (.tuple #[.bool true,.int .i64 k,.int .i32 r]) (wC.iter ⟨(l.drop s.at_).toArray⟩ p):=by
     by_cases ha:l[s.at_+k].toNat<128
     ·exact⟨l[s.at_+k].toNat,k+1,by omega,fun ty=>by rw[run_next_ascii wC _ k ty d (by rw[a];exact ha),a]⟩
     ·have hh:=decode_high (ByteArray.mk (l.drop s.at_).toArray) k d (by rw[a];omega);exact⟨_,_,by omega,fun ty=>run_next_any wC _ k ty d⟩
    have hF:=g.out p hb.symm;subst hb;have e:=hid hF;obtain⟨v,y⟩:=rc ⟨(l.drop s.at_).toArray⟩ p;clear f d a hd hm hF rc;rcases hr with hr|⟨G,H⟩
    all_goals
     go_wp2;go_ret2;exact⟨by simp,e.out⟩
  ·rw[Zff (by omega)]at hb;have t:∀ty,(Instr.next (.pointer (some ⟨wC.heap.size,0,none⟩)) true ty).run prog (wC.iter ⟨(l.drop s.at_).toArray⟩ k)=.ok (.tuple #[.bool false]) (wC.iter ⟨(l.drop s.at_).toArray⟩ k):=fun ty=>run_next_end wC _ k ty (by rw[Zbp,List.length_drop];omega);have hF:=g.out k hb.symm;subst hb;have e:=hid hF;obtain⟨v,y⟩:=rc ⟨(l.drop s.at_).toArray⟩ k;clear hm hF rc;go_wp2;go_ret2;exact⟨by simp,e.out⟩
theorem Z3{w:World}{e:TypeId}{size n:Nat}{v:Value}{xs:List Value}(h:w.ownsRow 0 e size v n xs):∀k,v.ownBlock=some k→k<w.heap.size:=by
 intro k hk;rcases h.2 with⟨rfl,_⟩|⟨r,a,b,rfl,_,hr,_⟩
 ·cases hk
 ·injection hk with hk;subst hk;exact lt_heap hr
theorem newAt0(w:World)(A:Obj):(w.alloc A).heap[w.heap.size]? =some A:=by unfold World.alloc;exact Array.getElem?_push_size
theorem Zbv:(prog.info? 95).map (fun i=>(i.zero,i.size,i.bytes))=some (some (.agg #[.int .i64 0,.string ByteArray.empty]),2,24):=by kernel_rfl
theorem Zch(l:List (Nat×List UInt8))(k:Nat)(t:List UInt8):mkC (l++[(k,t)])=mkC l++[.int .i64 k,.string ⟨t.toArray⟩]:=by simp[mkC]
def Zf0(S:Nat→Prop)(v:Value):Nat→Prop:=fun k=>S k∨v.ownBlock=some k
section
variable {b:Nat} {l:List UInt8} {s:RxS} {S:Nat→Prop} {cv mv v':Value} {w W0 w3:World}
theorem Br.pushM(h:Br b l s S cv mv w)(f:Fr nob w W0)(hap:Appd 1 mv v' W0 w3){t:List UInt8}
 (hown:w3.ownsRow 0 95 2 v' (s.marks.length+1) (mkC s.marks++[.int .i64 s.at_,.string ⟨t.toArray⟩])):
 (w3.cell? ⟨b,4,none⟩=some mv∧w3.frozen? ⟨b,4,none⟩=false)∧Rdg b l (s.mark t) (Zf0 S v') (w3.setCell ⟨b,4,none⟩ v')∧Stp S w (Zf0 S v') (w3.setCell ⟨b,4,none⟩ v'):=by
 have h0:=h.on f;have a:=hap.fr.heap h0.blk (fun e=>(h.nm b e).1 rfl);have i:=f.size;have hb:=lt_heap h.blk;have g:=ownsRow_fr h0.cl hap.fr (fun k hk e=>h.ne k hk e);have d:=(Fr.refl (fun k=>k=b) w3).setCell (p:=⟨b,4,none⟩) (fun _=>rfl) v';have c:v'.ownBlock≠some b:=fun e=>by
  rcases hap.old b e with h1|h1
  ·exact(h.nm b h1).1 rfl
  ·omega
 refine⟨⟨cell_at a rfl,ZF a 4⟩,⟨cv,v',by have:=Za a 4 v';simpa[RxS.mark]using this,ownsRow_fr g d (fun k hk e=>(h.nc k hk).1 e),?_,fun k hk=>⟨(h.nc k hk).1,.inl (h.nc k hk).2⟩,fun k hk=>⟨fun e=>c (by rw[←e];exact hk),.inr hk⟩,?_,.inl h.me⟩,?_,?_,?_⟩
 ·have:=ownsRow_fr hown d (fun k hk e=>c (by rw[←e];exact hk));unfold OwM;simp only[RxS.mark,List.length_append,List.length_singleton,Zch];exact this
 ·intro k hk e;rcases hap.old k e with h1|h1
  ·exact h.ne k hk h1
  ·have:=Z3 h.cl k hk;omega
 ·exact(f.any.trans (hap.fr.mono (T:=S) fun k _ hk=>(h.nm k hk).2) (fun _ _ x=>x)).setCell (p:=⟨b,4,none⟩) (fun _=>h.me) v'
 ·intro k hk hx;rcases hx with hx|hx
  ·exact hx
  ·rcases hap.old k hx with h1|h1
   ·exact(h.nm k h1).2
   ·omega
 ·intro hl k hk;have hz:(w3.setCell ⟨b,4,none⟩ v').heap.size=w3.heap.size:=by simp[World.setCell]
  rw[hz];rcases hk with hk|hk
  ·have:=hl k hk;have:=hap.fr.size;omega
  ·exact Z3 hown k hk
theorem Br.pushC(h:Br b l s S cv mv w)(f:Fr nob w W0)(hap:Appd 1 cv v' W0 w3){n:Nat}
 (hown:w3.ownsRow 0 3 1 v' (s.closed.length+1) ((s.closed.map fun(n:Nat)=>Value.int .i64 n)++[.int .i64 n])):
 (w3.cell? ⟨b,3,none⟩=some cv∧w3.frozen? ⟨b,3,none⟩=false)∧Rdg b l {s with closed:=s.closed++[n]} (Zf0 S v') (w3.setCell ⟨b,3,none⟩ v')∧Stp S w (Zf0 S v') (w3.setCell ⟨b,3,none⟩ v'):=by
 have h0:=h.on f;have a:=hap.fr.heap h0.blk (fun e=>(h.nc b e).1 rfl);have i:=f.size;have hb:=lt_heap h.blk;have g:=ownsRow_fr h0.ma hap.fr (fun k hk e=>h.ne k e hk);have d:=(Fr.refl (fun k=>k=b) w3).setCell (p:=⟨b,3,none⟩) (fun _=>rfl) v';have c:v'.ownBlock≠some b:=fun e=>by
  rcases hap.old b e with h1|h1
  ·exact(h.nc b h1).1 rfl
  ·omega
 refine⟨⟨cell_at a rfl,ZF a 3⟩,⟨v',mv,by have:=Za a 3 v';simpa using this,?_,ownsRow_fr g d (fun k hk e=>(h.nm k hk).1 e),fun k hk=>⟨fun e=>c (by rw[←e];exact hk),.inr hk⟩,fun k hk=>⟨(h.nm k hk).1,.inl (h.nm k hk).2⟩,?_,.inl h.me⟩,?_,?_,?_⟩
 ·have:=ownsRow_fr hown d (fun k hk e=>c (by rw[←e];exact hk));unfold OwC;simp only[List.length_append,List.length_singleton,List.map_append,List.map_cons,List.map_nil];exact this
 ·intro k hk e;rcases hap.old k hk with h1|h1
  ·exact h.ne k h1 e
  ·have:=Z3 h.ma k e;omega
 ·exact(f.any.trans (hap.fr.mono (T:=S) fun k _ hk=>(h.nc k hk).2) (fun _ _ x=>x)).setCell (p:=⟨b,3,none⟩) (fun _=>h.me) v'
 ·intro k hk hx;rcases hx with hx|hx
  ·exact hx
  ·rcases hap.old k hx with h1|h1
   ·exact(h.nc k h1).2
   ·omega
 ·intro hl k hk;have hz:(w3.setCell ⟨b,3,none⟩ v').heap.size=w3.heap.size:=by simp[World.setCell]
  rw[hz];rcases hk with hk|hk
  ·have:=hl k hk;have:=hap.fr.size;omega
  ·exact Z3 hown k hk
end
theorem Zdg{w:World}{g k:Nat}{t:List UInt8}{T:TypeId}{fr:Nat×Nat}(h:w.heap[g]? =some (.cells #[.int .i64 k,.string ⟨t.toArray⟩] T fr)):
 ∀j u,([.int .i64 k,.string ⟨t.toArray⟩]:List Value)[j]? =some u→w.cell? ((⟨g,0,none⟩:Addr).add j)=some u:=by
 intro j u hj
 match j,hj with
 |0,hj=>simp at hj;subst hj;exact cell_at h rfl
 |1,hj=>simp at hj;subst hj;exact cell_at h rfl
theorem Zf1{k:Nat}{t:List UInt8}:∀u∈([.int .i64 k,.string ⟨t.toArray⟩]:List Value),u.oneCell'=true:=by
 intro u hu;simp only[List.mem_cons,List.not_mem_nil,or_false]at hu;rcases hu with rfl|rfl<;>rfl
theorem br_mark(b:Nat)(l t:List UInt8)(s:RxS)(S:Nat→Prop)(w:World)(hm:s.marks.length≤100000)(h:Rdg b l s S w):
 Calls prog 54 #[.pointer (some ⟨b,0,none⟩),.string ⟨t.toArray⟩] w fun x w'=>x=.returned (.tuple #[])∧∃S',Rdg b l (s.mark t) S' w'∧Stp S w S' w':=by
 obtain⟨cv,mv,h⟩:=h;obtain⟨a,c,rfl⟩:=Zb h.ma;have rb:=Zd h.blk;obtain⟨i0,hi,f,g,i⟩:=info_parts Zbv;have HB:=hid h;clear h;go_enter func54,ntmps54;go_wp2_with fail
 go_region_law (refine step_append_g rfl (.tmp 8) (.tmp 15) 25 rfl 95 i0 (.agg #[.int .i64 0,.string ByteArray.empty]) 2 24 underlying25 hi f g i rfl (by decide) (.slice a s.marks.length c) s.marks.length (mkC s.marks) (by rfl) (by first|exact ownsRow_fr HB.out.ma (((Fr.refl nob w).alloc _).drew) (fun _ _ x=>x)|exact ownsRow_fr HB.out.ma (((Fr.refl nob w).drew).alloc _) (fun _ _ x=>x)) ⟨w.heap.size,0,none⟩ 1 1 [.int .i64 s.at_,.string ⟨t.toArray⟩] (by rfl) rfl (by first|exact Zdg (newAt0 w _)|exact Zdg (newAt0 w.drew _)) Zf1 (by unfold maxLen;omega) (by omega) ?_;intro v' w3 d e;obtain⟨av,j,rfl⟩:=Zb d;obtain⟨⟨pc,pf⟩,q1,q2⟩:=(by first|exact HB.out.pushM (((Fr.refl nob w).alloc _).drew) e d|exact HB.out.pushM (((Fr.refl nob w).drew).alloc _) e d);have HQ:=hid q1;have HR:=hid q2;clear d e q1 q2)
 all_goals
  go_wp2
  go_end0
  exact⟨rfl,_,HQ.out,HR.out⟩
theorem Zf2{l:List UInt8}{k m:Nat}(h:ZaQ (l.drop k) 0 0=(m,0)):Zfw l k=none:=by
 unfold Zfw;rw[h];rfl
theorem Zii{l:List UInt8}{k m c:Nat}(h:ZaQ (l.drop k) 0 0=(m,c))(hc:c≠0)(ha:ahd l (k+c) [44]=false):
 Zfw l k=if ahd l (k+c) [92,125]=false∨255<m then none else some ((m:Int),(m:Int),k+c+2):=by
 unfold Zfw;rw[h];simp only[hc,if_false,ha,Bool.false_eq_true];by_cases h1:ahd l (k+c) [92,125]=false∨255<m
 ·rw[if_pos h1,if_pos (by rcases h1 with h1|h1;exact .inl h1;exact .inr (.inl h1))]
 ·rw[if_neg h1,if_neg (by intro h2;rcases h2 with h2|h2|h2|h2;exact h1 (.inl h2);exact h1 (.inr h2);exact h1 (.inr (by omega));omega)]
theorem itvB_open{l:List UInt8}{k m c x:Nat}(h:ZaQ (l.drop k) 0 0=(m,c))(hc:c≠0)(ha:ahd l (k+c) [44]=true)(h2:ZaQ (l.drop (k+c+1)) 0 0=(x,0)):
 Zfw l k=if ahd l (k+c+1) [92,125]=false∨255<m then none else some ((m:Int), -1,k+c+1+2):=by
 unfold Zfw;rw[h];simp only[hc,if_false,ha,if_true,h2,Nat.add_zero];by_cases h1:ahd l (k+c+1) [92,125]=false∨255<m
 ·rw[if_pos h1,if_pos (by rcases h1 with h1|h1;exact .inl h1;exact .inr (.inl h1))]
 ·rw[if_neg h1,if_neg (by intro h2;rcases h2 with h2|h2|h2|h2;exact h1 (.inl h2);exact h1 (.inr h2);omega;omega)]
theorem itvB_two{l:List UInt8}{k m c x d:Nat}(h:ZaQ (l.drop k) 0 0=(m,c))(hc:c≠0)(ha:ahd l (k+c) [44]=true)(h2:ZaQ (l.drop (k+c+1)) 0 0=(x,d))(hd:d≠0):
 Zfw l k=if ahd l (k+c+1+d) [92,125]=false∨255<m∨255<x∨x<m then none else some ((m:Int),(x:Int),k+c+1+d+2):=by
 unfold Zfw;rw[h];simp only[hc,if_false,ha,if_true,h2,hd];by_cases h1:ahd l (k+c+1+d) [92,125]=false∨255<m∨255<x∨x<m
 ·rw[if_pos h1,if_pos (by rcases h1 with h1|h1|h1|h1;exact .inl h1;exact .inr (.inl h1);exact .inr (.inr (.inl (by omega)));exact .inr (.inr (.inr ⟨by omega,by omega⟩)))]
 ·rw[if_neg h1,if_neg (by intro h2;rcases h2 with h2|h2|h2|h2;exact h1 (.inl h2);exact h1 (.inr (.inl h2));exact h1 (.inr (.inr (.inl (by omega))));exact h1 (.inr (.inr (.inr (by omega)))))]
theorem ahd_le{l t:List UInt8}{k:Nat}(h:ahd l k t=true)(ht:1≤t.length):k+t.length≤l.length:=by
 unfold ahd at h;rw[List.isPrefixOf_iff_prefix]at h;have:=h.length_le;rw[List.length_drop]at this;omega
theorem Zdh(l:List UInt8)(k:Nat)(h:k≤l.length):(ZaQ (l.drop k) 0 0).2≤3∧(ZaQ (l.drop k) 0 0).1<1000∧k+(ZaQ (l.drop k) 0 0).2≤l.length:=by
 obtain⟨h1,h2,_,h4⟩:=Zkq (l.drop k) 0 0 (by omega) (by decide);rw[List.length_drop]at h4;refine⟨h1,Nat.lt_of_lt_of_le h2 (by have:=Zkr h1;unfold p10 at this;exact this),by omega⟩
def Zpv(b:Nat)(l:List UInt8)(s:RxS)(S:Nat→Prop)(w:World)(p:Nat):Option (Int×Int×Nat)→Ending→World→Prop
 |none,x,w'=>x=.panicked (Zkp 7 p)∧Stp S w S w'
 |some (m,n,k),x,w'=>x=.returned (.tuple #[.int .i64 m,.int .i64 n])∧Rdg b l (s.to k) S w'∧Stp S w S w'
theorem Zhh(b:Nat)(l:List UInt8)(s:RxS)(S:Nat→Prop)(w:World)(p:Nat)(hl:l.length≤100000)(ha:s.at_≤l.length)(h:Rdg b l s S w):
 Calls prog 112 #[.pointer (some ⟨b,0,none⟩),.int .i64 (p:Nat)] w fun x w'=>Zpv b l s S w p (Zfw l s.at_) x w':=by
 obtain⟨t,u,v⟩:=Zdh l s.at_ ha;have hN:=ZfZ b l s S w hl ha h;clear h;obtain⟨m,c,hM⟩:∃m c,ZaQ (l.drop s.at_) 0 0=(m,c):=⟨_,_,rfl⟩;rw[hM]at hN t u v;simp only at hN t u v;obtain⟨I,hI⟩:∃I,Zfw l s.at_=I:=⟨_,rfl⟩;rw[hI];have HM:=hid hM;have HI:=hid hI;clear hM hI;go_enter func112,ntmps112;go_wp2_with fail;refine hN.mono ?_;rintro e w1 ⟨rfl,r1,t1⟩;have R1:=hid r1;have T1:=hid t1;clear r1 t1 hN;by_cases hc:c=0
 ·subst hc;have hI:=HI.out;rw[Zf2 HM.out]at hI;subst hI;go_wp2_with(go_at_call 82;refine(br_fail 7 p _).mono ?_;rintro e w' ⟨rfl,rfl⟩);exact⟨rfl,rfl,T1.out⟩
 ·have z:decide (0<c)=true:=by simp;omega
  have hT:=ZbN b l [44] (s.go c) S w1 hl (by decide) (by show s.at_+c≤_;omega) R1.out;rw[show(s.go c).at_=s.at_+c from rfl]at hT;have HC:=hid hc;have C:¬(m:Int)<m:=by omega
  have B:(0:Int)≤m:=by omega
  clear hc;cases hA:ahd l (s.at_+c) [44]with
  |false=>
   have hI:=HI.out;rw[Zii HM.out HC.out hA]at hI;rw[hA]at hT;simp only[Bool.false_eq_true,if_false]at hT;have q:=hid hT;clear hT hA;go_wp2_with(go_at_call 80;(with_reducible refine(q.out).mono ?_);rintro e w2 ⟨rfl,r2,t2⟩;have R2:=hid r2;have T2:=hid t2;clear r2 t2);have j:=ZbN b l [92,125] (s.go c) S w2 hl (by decide) (by show s.at_+c≤_;omega) R2.out;rw[show(s.go c).at_=s.at_+c from rfl]at j;obtain⟨E,hE⟩:∃E,ahd l (s.at_+c) [92,125]=E:=⟨_,rfl⟩;rw[hE]at j hI;clear hE;by_cases a:E=false∨255<m
   ·rw[if_pos a]at hI;subst hI;have k:=hid j;clear j;have hb:E=false∨(E=true∧255<m):=by cases E<;>simp at a⊢<;>omega
    clear a;rcases hb with rfl|⟨rfl,g⟩
    all_goals
     go_wp2_with(first|(go_at_call 80;(with_reducible refine(k.out).mono ?_);rintro e w3 ⟨rfl,r3,t3⟩;have R3:=hid r3;have T3:=hid t3;clear r3 t3)|(go_at_call 82;refine(br_fail 7 p _).mono ?_;rintro e w' ⟨rfl,rfl⟩));exact⟨rfl,rfl,(T1.out.trans T2.out).trans T3.out⟩
   ·rw[if_neg a]at hI;subst hI;obtain rfl:E=true:=by cases E with|true=>rfl|false=>exact absurd (.inl rfl) a
    have g:¬255<m:=fun h=>a (.inr h);simp only[if_true]at j;have k:=hid j;clear j a;go_wp2_with(go_at_call 80;(with_reducible refine(k.out).mono ?_);rintro e w3 ⟨rfl,r3,t3⟩;have R3:=hid r3;have T3:=hid t3;clear r3 t3);go_ret2;exact⟨rfl,R3.out,(T1.out.trans T2.out).trans T3.out⟩
  |true=>
   have o:=ahd_le hA (by decide);simp only[List.length_singleton]at o;rw[hA]at hT;simp only[if_true]at hT;have HA:=hid hA;have q:=hid hT;clear hT hA;obtain⟨k1,k2,k3⟩:=Zdh l (s.at_+c+1) o;obtain⟨x,d,hX⟩:∃x d,ZaQ (l.drop (s.at_+c+1)) 0 0=(x,d):=⟨_,_,rfl⟩;rw[hX]at k1 k2 k3;simp only at k1 k2 k3;have HX:=hid hX;clear hX;have D:(0:Int)≤x:=by omega
   go_wp2_with(go_at_call 80;(with_reducible refine(q.out).mono ?_);rintro e w2 ⟨rfl,r2,t2⟩;have R2:=hid r2;have T2:=hid t2;clear r2 t2);have r:=ZfZ b l ((s.go c).go 1) S w2 hl (by show s.at_+c+1≤_;omega) R2.out;rw[show((s.go c).go 1).at_=s.at_+c+1 from rfl,HX.out]at r;have k:=hid r;clear r;by_cases hd:d=0
   ·subst hd;have hI:=HI.out;go_wp2_with(go_at_call 136;(with_reducible refine(k.out).mono ?_);rintro e w3 ⟨rfl,r3,t3⟩;have R3:=hid r3;have T3:=hid t3;clear r3 t3);rw[itvB_open HM.out HC.out HA.out HX.out]at hI;have f:=ZbN b l [92,125] (((s.go c).go 1).go 0) S w3 hl (by decide) (by show s.at_+c+1+0≤_;omega) R3.out;rw[show(((s.go c).go 1).go 0).at_=s.at_+c+1 from rfl]at f;obtain⟨E,hE⟩:∃E,ahd l (s.at_+c+1) [92,125]=E:=⟨_,rfl⟩;rw[hE]at f hI;clear hE;by_cases a:E=false∨255<m
    ·rw[if_pos a]at hI;subst hI;have i:=hid f;clear f;have hb:E=false∨(E=true∧255<m):=by cases E<;>simp at a⊢<;>omega
     clear a;rcases hb with rfl|⟨rfl,g⟩
     all_goals
      go_wp2_with(first|(go_at_call 80;(with_reducible refine(i.out).mono ?_);rintro e w4 ⟨rfl,r4,t4⟩;have R4:=hid r4;have T4:=hid t4;clear r4 t4)|(go_at_call 82;refine(br_fail 7 p _).mono ?_;rintro e w' ⟨rfl,rfl⟩));exact⟨rfl,rfl,((T1.out.trans T2.out).trans T3.out).trans T4.out⟩
    ·rw[if_neg a]at hI;subst hI;obtain rfl:E=true:=by cases E with|true=>rfl|false=>exact absurd (.inl rfl) a
     have g:¬255<m:=fun h=>a (.inr h);simp only[if_true]at f;have i:=hid f;clear f a;go_wp2_with(go_at_call 80;(with_reducible refine(i.out).mono ?_);rintro e w4 ⟨rfl,r4,t4⟩;have R4:=hid r4;have T4:=hid t4;clear r4 t4);go_ret2;exact⟨rfl,R4.out,((T1.out.trans T2.out).trans T3.out).trans T4.out⟩
   ·have hI:=HI.out;rw[itvB_two HM.out HC.out HA.out HX.out hd]at hI;have A:decide (0<d)=true:=by simp;omega
    go_wp2_with(go_at_call 136;(with_reducible refine(k.out).mono ?_);rintro e w3 ⟨rfl,r3,t3⟩;have R3:=hid r3;have T3:=hid t3;clear r3 t3);have f:=ZbN b l [92,125] (((s.go c).go 1).go d) S w3 hl (by decide) (by show s.at_+c+1+d≤_;omega) R3.out;rw[show(((s.go c).go 1).go d).at_=s.at_+c+1+d from rfl]at f;clear hd;obtain⟨E,hE⟩:∃E,ahd l (s.at_+c+1+d) [92,125]=E:=⟨_,rfl⟩;rw[hE]at f hI;clear hE;by_cases a:E=false∨255<m∨255<x∨x<m
    ·rw[if_pos a]at hI;subst hI;have i:=hid f;clear f;have hb:E=false∨(E=true∧255<m)∨(E=true∧¬255<m∧255<x)∨(E=true∧¬255<m∧¬255<x∧(x:Int)<m):=by cases E<;>simp at a⊢<;>omega
     clear a;rcases hb with rfl|⟨rfl,g⟩|⟨rfl,g,n⟩|⟨rfl,g,n,y⟩
     all_goals
      go_wp2_with(first|(go_at_call 80;(with_reducible refine(i.out).mono ?_);rintro e w4 ⟨rfl,r4,t4⟩;have R4:=hid r4;have T4:=hid t4;clear r4 t4)|(go_at_call 82;refine(br_fail 7 p _).mono ?_;rintro e w' ⟨rfl,rfl⟩));exact⟨rfl,rfl,((T1.out.trans T2.out).trans T3.out).trans T4.out⟩
    ·rw[if_neg a]at hI;subst hI;obtain rfl:E=true:=by cases E with|true=>rfl|false=>exact absurd (.inl rfl) a
     have g:¬255<m:=fun h=>a (.inr (.inl h));have n:¬255<x:=fun h=>a (.inr (.inr (.inl h)));have y:¬(x:Int)<m:=fun h=>a (.inr (.inr (.inr (by omega))));simp only[if_true]at f;have i:=hid f;clear f a;go_wp2_with(go_at_call 80;(with_reducible refine(i.out).mono ?_);rintro e w4 ⟨rfl,r4,t4⟩;have R4:=hid r4;have T4:=hid t4;clear r4 t4);go_ret2;exact⟨rfl,R4.out,((T1.out.trans T2.out).trans T3.out).trans T4.out⟩
def prg:Alg Nd:=⟨.one,.rep,.group,.back,.start,.fin,Za2,Za3⟩
def ZbO(b:Nat)(l:List UInt8)(S O:Nat→Prop)(w:World):Out Nd→Ending→World→Prop
 | .inl (e,p),x,w'=>x=.panicked (Zkp e p)∧∃S',Stp S w S' w'
 | .inr (t,s'),x,w'=>∃i y S',x=.returned (.iface i y)∧RN (SO S' O) w' t (.iface i y)∧Rdg b l s' S' w'∧Stp S w S' w'
section
variable {α:Type} {A:Alg α} {l:List UInt8} {n:Nat} {s:RxS} {t:α}
theorem Zf3(h:ahd l s.at_ [92,43]=true):ZbW A l (n+1) s t=ZbW A l n ((s.mark [92,43]).go 2) (A.rep t 1 (-1)):=by rw[ZbW,if_pos h]
theorem ZeB(h:ahd l s.at_ [92,43]=false)(h2:ahd l s.at_ [92,63]=true):ZbW A l (n+1) s t=ZbW A l n ((s.mark [92,63]).go 2) (A.rep t 0 1):=by
 rw[ZbW,if_neg (by rw[h];decide),if_pos h2]
theorem Zij(h:ahd l s.at_ [92,43]=false)(h2:ahd l s.at_ [92,63]=false)(h3:ahd l s.at_ [92,123]=true)(h4:Zfw l (s.at_+2)=none):ZbW A l (n+1) s t=.inl (7,s.at_):=by
 rw[ZbW,if_neg (by rw[h];decide),if_neg (by rw[h2];decide),if_pos h3,h4]
theorem ZeC(h:ahd l s.at_ [92,43]=false)(h2:ahd l s.at_ [92,63]=false)(h3:ahd l s.at_ [92,123]=true){m x:Int}{k:Nat}(h4:Zfw l (s.at_+2)=some (m,x,k)):
 ZbW A l (n+1) s t=ZbW A l n (s.to k) (A.rep t m x):=by
 rw[ZbW,if_neg (by rw[h];decide),if_neg (by rw[h2];decide),if_pos h3,h4]
theorem repS_star(h:ahd l s.at_ [92,43]=false)(h2:ahd l s.at_ [92,63]=false)(h3:ahd l s.at_ [92,123]=false)(h4:ahd l s.at_ [42]=true):ZbW A l (n+1) s t=ZbW A l n (s.go 1) (A.rep t 0 (-1)):=by
 rw[ZbW,if_neg (by rw[h];decide),if_neg (by rw[h2];decide),if_neg (by rw[h3];decide),if_pos h4]
theorem Zik(h:ahd l s.at_ [92,43]=false)(h2:ahd l s.at_ [92,63]=false)(h3:ahd l s.at_ [92,123]=false)(h4:ahd l s.at_ [42]=false):ZbW A l (n+1) s t=.inr (t,s):=by
 rw[ZbW,if_neg (by rw[h];decide),if_neg (by rw[h2];decide),if_neg (by rw[h3];decide),if_neg (by rw[h4];decide)]
end
theorem Zks{l:List UInt8}{k:Nat}{m x:Int}{j:Nat}(hk:k≤l.length)(h:Zfw l k=some (m,x,j)):k+3≤j∧j≤l.length∧0≤m∧m≤255∧ -1≤x∧x≤255:=by
 obtain⟨b1,b2,b3⟩:=Zdh l k hk;obtain⟨p,c,hM⟩:∃p c,ZaQ (l.drop k) 0 0=(p,c):=⟨_,_,rfl⟩;rw[hM]at b1 b2 b3;simp only at b1 b2 b3;by_cases hc:c=0
 ·subst hc;rw[Zf2 hM]at h;cases h
 ·cases ha:ahd l (k+c) [44]with
  |false=>
   rw[Zii hM hc ha]at h;split at h
   ·cases h
   ·next hn=>
    have he:ahd l (k+c) [92,125]=true:=by cases hq:ahd l (k+c) [92,125];exact absurd (.inl hq) hn;rfl
    have:=ahd_le he (by decide);simp only[List.length_cons,List.length_nil]at this;simp only[Option.some.injEq,Prod.mk.injEq]at h;obtain⟨rfl,rfl,rfl⟩:=h;have:¬255<p:=fun x=>hn (.inr x);omega
  |true=>
   have a:=ahd_le ha (by decide);simp only[List.length_singleton]at a;obtain⟨e1,e2,e3⟩:=Zdh l (k+c+1) a;obtain⟨y,d,hX⟩:∃y d,ZaQ (l.drop (k+c+1)) 0 0=(y,d):=⟨_,_,rfl⟩;rw[hX]at e1 e2 e3;simp only at e1 e2 e3;by_cases hd:d=0
   ·subst hd;rw[itvB_open hM hc ha hX]at h;split at h
    ·cases h
    ·next hn=>
     have he:ahd l (k+c+1) [92,125]=true:=by cases hq:ahd l (k+c+1) [92,125];exact absurd (.inl hq) hn;rfl
     have:=ahd_le he (by decide);simp only[List.length_cons,List.length_nil]at this;simp only[Option.some.injEq,Prod.mk.injEq]at h;obtain⟨rfl,rfl,rfl⟩:=h;have:¬255<p:=fun x=>hn (.inr x);omega
   ·rw[itvB_two hM hc ha hX hd]at h;split at h
    ·cases h
    ·next hn=>
     have he:ahd l (k+c+1+d) [92,125]=true:=by cases hq:ahd l (k+c+1+d) [92,125];exact absurd (.inl hq) hn;rfl
     have:=ahd_le he (by decide);simp only[List.length_cons,List.length_nil]at this;simp only[Option.some.injEq,Prod.mk.injEq]at h;obtain⟨rfl,rfl,rfl⟩:=h;have:¬255<p:=fun x=>hn (.inr (.inl x));have:¬255<y:=fun x=>hn (.inr (.inr (.inl x)));omega
theorem RN.rep{S:Nat→Prop}{w:World}{t:Nd}{v:Value}(h:RN S w t v)(m x:Int):RN S w (.rep t m x) (.iface 137 (.agg #[v,.int .i64 m,.int .i64 x])):=by
 rw[RN.eq_def];exact⟨v,rfl,h⟩
def Zpw(b:Nat)(l:List UInt8)(S O:Nat→Prop)(w:World)(F:Out Nd)(n:Nat)(v:Value)(wr:World):Prop:=
 ∃i y s t S',v=.iface i y∧RN (SO S' O) wr t v∧Rdg b l s S' wr∧Stp S w S' wr∧l.length<n+s.at_∧s.at_≤l.length∧s.marks.length≤s.at_∧ZbW prg l n s t=F
theorem ZbP(b:Nat)(l:List UInt8)(s:RxS)(t:Nd)(i:TypeId)(y:Value)(S O:Nat→Prop)(w:World)(hl:l.length≤100000)(ha:s.at_≤l.length)(hm:s.marks.length≤s.at_)(hv:RN (SO S O) w t (.iface i y))(h:Rdg b l s S w):
 Calls prog 84 #[.pointer (some ⟨b,0,none⟩),.iface i y] w fun x w'=>ZbO b l S O w (ZbW prg l (l.length+1) s t) x w':=by
 obtain⟨F,hF⟩:∃F,ZbW prg l (l.length+1) s t=F:=⟨_,rfl⟩;rw[hF];have HF:=hid hF;have HV:=hid hv;have HH:=hid h;clear hF hv h;go_enter func84,ntmps84;go_wp2_with fail
 go_loopg [1] (l.length+1) (fun n u wr=>Zpw b l S O w F n u wr)
 case atStart=>exact⟨i,y,s,t,S,rfl,HV.out,HH.out,Stp.refl _ _,by omega,ha,hm,HF.out⟩
 case round=>
  clear HF HV HH ha hm;clear s t;obtain⟨i,y,s,t,S1,rfl,hv,hr,A,hn,ha,hm,hF⟩:=hrel;obtain⟨m,rfl⟩:∃m,gk=m+1:=⟨gk-1,by omega⟩;have h1:=Zcg b l [92,43] s S1 wr (by omega) (by decide) ha hr;obtain⟨cv,mv,hB⟩:=hr;obtain⟨⟨c0,c1,c2,c3,c4⟩,d0,d1,d2,d3,d4⟩:=Zd hB.blk _ (Fr.refl _ _);have HV:=hid hv;have HB:=hid hB;have g:=hid A;have HF:=hid hF;have HA:=hid (fun(tt:List UInt8) (w':World) (f:Fr nob wr w') (ht:tt.length≤1000)=>Zcg b l tt s S1 w' (by omega) (by omega) ha ⟨cv,mv,hB.on f⟩);have HT:=hid (fun(tt:List UInt8) (w':World) (f:Fr nob wr w') (ht:tt.length≤1000)=>ZbN b l tt s S1 w' hl ht ha ⟨cv,mv,hB.on f⟩);clear hv hB A hF h1;cases e1:ahd l s.at_ [92,43]with
  |true=>
   have d:=ahd_le e1 (by decide);simp only[List.length_cons,List.length_nil]at d;have hF:=HF.out;rw[Zf3 e1]at hF;have H1:=hid (HA.out [92,43] wr (Fr.refl _ _) (by decide));rw[e1]at H1;have a:=hid hF;clear hF e1 HF;go_wp2_with fail;refine(H1.out).mono ?_;rintro e w1 ⟨rfl,f1⟩;have F1:=hid f1;clear f1;go_wp2_with fail;refine(br_mark b l [92,43] s S1 w1 (by omega) ⟨cv,mv,HB.out.on F1.out⟩).mono ?_;rintro e w5 ⟨rfl,S5,⟨v,z,c⟩,r⟩;obtain⟨⟨_,k1,_⟩,_,k2,_⟩:=Zd c.blk _ (Fr.refl _ _);rw[show(s.mark [92,43]).at_=s.at_ from rfl]at k1;have j:=hid c;have o:=hid ((Stp.of F1.out).trans r);clear c r;go_wp2;go_roundg m
   case measure=>omega
   case rel=>
    have p:=j.out.stp 1 (.int .i64 ((s.at_:Int)+2));refine⟨_,_,(s.mark [92,43]).go 2,.rep t 1 (-1),S5,rfl,((o.out.trans p).rn HV.out).rep _ _,⟨v,z,j.out.turned 1 _ _ (by simp[RxS.go,RxS.mark]) rfl rfl⟩,(g.out.trans o.out).trans p,?_,?_,?_,a.out⟩
    ·show l.length<m+(s.at_+2);omega
    ·show s.at_+2≤_;omega
    ·show(s.marks++[_]).length≤s.at_+2;simp;omega
  |false=>
   have H1:=hid (HA.out [92,43] wr (Fr.refl _ _) (by decide));rw[e1]at H1;go_wp2_with fail;refine(H1.out).mono ?_;rintro e w1 ⟨rfl,f1⟩;have F1:=hid f1;clear f1;cases e2:ahd l s.at_ [92,63]with
   |true=>
    have d:=ahd_le e2 (by decide);simp only[List.length_cons,List.length_nil]at d;have hF:=HF.out;rw[ZeB e1 e2]at hF;have H2:=hid (HA.out [92,63] w1 F1.out (by decide));rw[e2]at H2;have a:=hid hF;clear hF e1 e2 HF;go_wp2_with fail;refine(H2.out).mono ?_;rintro e w2 ⟨rfl,f2⟩;have F2:=hid (F1.out.trans' f2);clear f2;go_wp2_with fail;refine(br_mark b l [92,63] s S1 w2 (by omega) ⟨cv,mv,HB.out.on F2.out⟩).mono ?_;rintro e w5 ⟨rfl,S5,⟨v,z,c⟩,r⟩;obtain⟨⟨_,k1,_⟩,_,k2,_⟩:=Zd c.blk _ (Fr.refl _ _);rw[show(s.mark [92,63]).at_=s.at_ from rfl]at k1;have j:=hid c;have o:=hid ((Stp.of F2.out).trans r);clear c r;go_wp2;go_roundg m
    case measure=>omega
    case rel=>
     have p:=j.out.stp 1 (.int .i64 ((s.at_:Int)+2));refine⟨_,_,(s.mark [92,63]).go 2,.rep t 0 1,S5,rfl,((o.out.trans p).rn HV.out).rep _ _,⟨v,z,j.out.turned 1 _ _ (by simp[RxS.go,RxS.mark]) rfl rfl⟩,(g.out.trans o.out).trans p,?_,?_,?_,a.out⟩
     ·show l.length<m+(s.at_+2);omega
     ·show s.at_+2≤_;omega
     ·show(s.marks++[_]).length≤s.at_+2;simp;omega
   |false=>
    have H2:=hid (HA.out [92,63] w1 F1.out (by decide));rw[e2]at H2;go_wp2_with fail;refine(H2.out).mono ?_;rintro e w2 ⟨rfl,f2⟩;have F2:=hid (F1.out.trans' f2);clear f2;cases e3:ahd l s.at_ [92,123]with
    |true=>
     have d:=ahd_le e3 (by decide);simp only[List.length_cons,List.length_nil]at d;have H3:=hid (HT.out [92,123] w2 F2.out (by decide));rw[e3]at H3;go_wp2_with fail;refine(H3.out).mono ?_;rintro e w3 ⟨rfl,r3,t3⟩;have hI:=Zhh b l (s.go 2) S1 w3 s.at_ hl (by show s.at_+2≤_;omega) r3;rw[show(s.go 2).at_=s.at_+2 from rfl]at hI;have T3:=hid ((Stp.of F2.out).trans t3);clear r3 t3;cases e4:Zfw l (s.at_+2)with
     |none=>
      have hF:=HF.out;rw[Zij e1 e2 e3 e4]at hF;rw[e4]at hI;have HI:=hid hI;subst hF;clear e1 e2 e3 e4 HF hI;go_wp2_with fail;refine(HI.out).mono ?_;rintro e w4 ⟨rfl,t4⟩;exact⟨rfl,rfl,S1,(g.out.trans T3.out).trans t4⟩
     |some q=>
      obtain⟨mn,mx,k⟩:=q;have hF:=HF.out;rw[ZeC e1 e2 e3 e4]at hF;rw[e4]at hI;obtain⟨g1,g2,g3,g4,g5,g6⟩:=Zks (by omega) e4;have HI:=hid hI;have a:=hid hF;clear e1 e2 e3 e4 HF hI hF;go_wp2_with fail;refine(HI.out).mono ?_;rintro e w4 ⟨rfl,r4,t4⟩;have R4:=hid r4;have T4:=hid (T3.out.trans t4);clear r4 t4;go_wp2;go_roundg m
      case measure=>omega
      case rel=>
       refine⟨_,_,s.to k,.rep t mn mx,S1,rfl,(T4.out.rn HV.out).rep _ _,R4.out,g.out.trans T4.out,?_,?_,?_,a.out⟩
       ·show l.length<m+k;omega
       ·show k≤_;omega
       ·show s.marks.length≤k;omega
    |false=>
     have H3:=hid (HT.out [92,123] w2 F2.out (by decide));rw[e3]at H3;go_wp2_with fail;refine(H3.out).mono ?_;rintro e w3 ⟨rfl,r3,t3⟩;simp only[Bool.false_eq_true,if_false]at r3;have h4:=ZbN b l [42] s S1 w3 hl (by decide) ha r3;have T3:=hid ((Stp.of F2.out).trans t3);clear r3 t3;cases e4:ahd l s.at_ [42]with
     |true=>
      have d:=ahd_le e4 (by decide);simp only[List.length_singleton]at d;have hF:=HF.out;rw[repS_star e1 e2 e3 e4]at hF;rw[e4]at h4;have H4:=hid h4;have a:=hid hF;clear e1 e2 e3 e4 HF h4 hF;go_wp2_with fail;refine(H4.out).mono ?_;rintro e w4 ⟨rfl,r4,t4⟩;have R4:=hid r4;have T4:=hid (T3.out.trans t4);clear r4 t4;go_wp2;go_roundg m
      case measure=>omega
      case rel=>
       refine⟨_,_,s.go 1,.rep t 0 (-1),S1,rfl,(T4.out.rn HV.out).rep _ _,R4.out,g.out.trans T4.out,?_,?_,?_,a.out⟩
       ·show l.length<m+(s.at_+1);omega
       ·show s.at_+1≤_;omega
       ·show s.marks.length≤s.at_+1;omega
     |false=>
      have hF:=HF.out;rw[Zik e1 e2 e3 e4]at hF;rw[e4]at h4;have H4:=hid h4;subst hF;clear e1 e2 e3 e4 HF h4;go_wp2_with fail;refine(H4.out).mono ?_;rintro e w4 ⟨rfl,r4,t4⟩;simp only[Bool.false_eq_true,if_false]at r4;have R4:=hid r4;have T4:=hid (T3.out.trans t4);clear r4 t4;go_wp2;go_ret;exact⟨_,_,S1,rfl,T4.out.rn HV.out,R4.out,g.out.trans T4.out⟩
theorem Zil(w:World):Calls prog 158 #[] w fun e w'=>e=.returned (ZcR ZbX)∧Fr nob w w':=by
 have hc:=fun w=>Zb5 ⟨#[115,112,97,99,101]⟩ _ rfl w;obtain⟨s,hs⟩:∃s,ZaD (Zak ⟨#[115,112,97,99,101]⟩)=s:=⟨_,rfl⟩;unfold ZbX;rw[hs]at hc⊢;have HC:=hid hc;clear hc hs;go_enter func158,ntmps158;go_wp2_with fail;refine(HC.out _).mono ?_;rintro e w1 ⟨rfl,f1⟩;have f:=f1.heap (newAt0 w _) (fun x=>x);have rr:=Zl f;have HB:=hid f;have F1:=hid f1;clear f1 f;go_wp2;have g:=heap_alloc_lt (w:=w1) (.cells #[.int .u64 s.a,.int .u64 s.b,.int .u64 s.c,.int .u64 s.d] 132) HB.out;exact bodyPost_ret (Zs (s:=s) rfl rfl (setFour_heap g _ _ _ _)) rfl ⟨rfl,Zp ((((Fr.refl nob w).alloc _).trans' F1.out).alloc _) (Nat.le_refl _) _ _ _ _⟩
theorem q4_on{w w':World}{b:Nat}{s:S4}(h:Q4 w b s)(f:Fr nob w w'):Q4 w' b s:=⟨f.cell h.1 (fun x=>x),f.cell h.2.1 (fun x=>x),f.cell h.2.2.1 (fun x=>x),f.cell h.2.2.2 (fun x=>x)⟩
theorem q4_four{w w':World}{b c:Nat}{s:S4}(h:Q4 w b s)(f:Fr nob w w')(hne:b≠c)(v0 v1 v2 v3:Value):Q4 (ZaG w' c v0 v1 v2 v3) b s:=by
 have h':=q4_on h f;have g:=ZS w' c v0 v1 v2 v3;exact⟨g.cell h'.1 hne,g.cell h'.2.1 hne,g.cell h'.2.2.1 hne,g.cell h'.2.2.2 hne⟩
theorem ZnW(w:World)(T:TypeId):Calls prog 116 #[.slice (some ⟨w.heap.size,0,none⟩) 1 1] (w.alloc (.cells #[.int .u8 95] T)) fun e w'=>e=.returned (ZcR (spn 95 95))∧Fr nob (w.alloc (.cells #[.int .u8 95] T)) w':=Zb6 95 w T
theorem Zkt(w:World):Calls prog 157 #[] w fun e w'=>e=.returned (ZcR Zdz)∧Fr nob w w':=by
 have hc:=fun w=>Zb5 ⟨#[97,108,110,117,109]⟩ _ rfl w;obtain⟨s,hs⟩:∃s,ZaD (Zak ⟨#[97,108,110,117,109]⟩)=s:=⟨_,rfl⟩;unfold Zdz;rw[hs]at hc⊢;obtain⟨u,hu⟩:∃u,spn 95 95=u:=⟨_,rfl⟩;have ho:=ZnW;rw[hu]at ho⊢;have HO:=hid ho;have HC:=hid hc;clear hc hs hu ho;obtain⟨x,hx⟩:∃x,s.or u=x:=⟨_,rfl⟩;have f:=fun w=>ZfK s u w;rw[hx]at f⊢;have j:=hid f;clear f hx;go_enter func157,ntmps157;go_wp2_with fail;refine(HC.out _).mono ?_;rintro e w1 ⟨rfl,f1⟩;have h:=f1.heap (newAt0 w _) (fun x=>x);have HB:=hid h;have F1:=hid f1;clear f1 h;go_wp2_with fail;have i:=newAt0 w1 (.cells #[.int .u64 s.a,.int .u64 s.b,.int .u64 s.c,.int .u64 s.d] 132);have hq:Q4 (w1.alloc (.cells #[.int .u64 s.a,.int .u64 s.b,.int .u64 s.c,.int .u64 s.d] 132)) w1.heap.size s:=Q4.of i;obtain⟨w2,g⟩:∃w2,w2=w1.alloc (.cells #[.int .u64 s.a,.int .u64 s.b,.int .u64 s.c,.int .u64 s.d] 132):=⟨_,rfl⟩
 rw[←g]at hq⊢;have F2:=hid (show Fr nob w1 w2 by rw[g];exact(Fr.refl _ _).alloc _);have HQ:=hid hq;clear i hq g;have hz:=F2.out.heap HB.out (fun x=>x);have rr:=Zl hz;have HZ:=hid hz;clear hz;have k:w1.heap.size≠w.heap.size:=by have:=F1.out.size;simp at this;omega
 go_region_held3 (fun w'=>Q4 w' w1.heap.size s) (first|(with_reducible exact HQ.out)|(with_reducible exact q4_on HQ.out ((Fr.refl nob w2).drew))|(with_reducible exact q4_on HQ.out (((Fr.refl nob w2).drew).alloc _))|(with_reducible exact q4_on HQ.out ((Fr.refl nob w2).alloc _))|(with_reducible exact q4_on HQ.out (((Fr.refl nob w2).alloc _).drew))|(with_reducible exact q4_on HQ.out G2)|(with_reducible exact q4_on HQ.out G1)|(exact q4_four HQ.out G2 k _ _ _ _)) (first|(go_at_call 116;refine(HO.out (World.drew w2) _).mono ?_;rintro e g1 ⟨rfl,f1⟩;have G1:Fr nob w2 g1:=(by first|exact((((Fr.refl nob w2).drew).alloc _).trans' f1)|exact(((Fr.refl nob w2).alloc _).trans' f1));clear f1)|(go_at_call 141;(with_reducible refine(j.out _).mono ?_);rintro e g2 ⟨rfl,f2⟩;have G2:Fr nob w2 g2:=G1.trans' f2;clear f2))
 all_goals
  go_wp2;exact bodyPost_ret (Zs (s:=x) rfl rfl (setFour_heap (G2.heap HZ.out (fun x=>x)) _ _ _ _)) rfl ⟨rfl,Zp (((((Fr.refl nob w).alloc _).trans' F1.out).trans' F2.out).trans' G2) (Nat.le_refl _) _ _ _ _⟩
def Zim(b:UInt8):S4×Bool×Bool:=
 match ZjI b with
 |some (c,m)=>(c,m,true)
 |none=>(spn b.toNat b.toNat,false,false)
theorem Zmd:Zim 110=(spn 10 10,false,true):=rfl
theorem Zme:Zim 116=(spn 9 9,true,true):=rfl
theorem Zmf:Zim 119=(Zdz,true,true):=rfl
theorem ZnX:Zim 87=(Zdz.not,true,true):=rfl
theorem Zmg:Zim 115=(ZbX,true,true):=rfl
theorem ZnY:Zim 83=(ZbX.not,true,true):=rfl
theorem Zku{b:UInt8}(h1:b≠110)(h2:b≠116)(h3:b≠119)(h4:b≠87)(h5:b≠115)(h6:b≠83):Zim b=(spn b.toNat b.toNat,false,Za0.has b.toNat):=by
 unfold Zim ZjI;rw[if_neg h1,if_neg h2,if_neg h3,if_neg h4,if_neg h5,if_neg h6];cases Za0.has b.toNat<;>rfl
theorem Zqs(w:World)(T:TypeId):Calls prog 116 #[.slice (some ⟨w.heap.size,0,none⟩) 1 1] (w.alloc (.cells #[.int .u8 10] T)) fun e w'=>e=.returned (ZcR (spn 10 10))∧Fr nob (w.alloc (.cells #[.int .u8 10] T)) w':=Zb6 10 w T
theorem ZqW(w:World)(T:TypeId):Calls prog 116 #[.slice (some ⟨w.heap.size,0,none⟩) 1 1] (w.alloc (.cells #[.int .u8 9] T)) fun e w'=>e=.returned (ZcR (spn 9 9))∧Fr nob (w.alloc (.cells #[.int .u8 9] T)) w':=Zb6 9 w T
abbrev ZnZ(R:S4×Bool×Bool)(w:World)(e:Ending)(w':World):Prop:=e=.returned (.tuple #[ZcR R.1,.bool R.2.1,.bool R.2.2])∧Fr nob w w'
theorem Zji(b:UInt8)(w:World):Calls prog 138 #[.int .u8 b.toNat] w fun e w'=>ZnZ (Zim b) w e w':=by
 obtain⟨w0,i⟩:∃w0,w0=w.alloc (.cells #[.int .u64 0,.int .u64 0,.int .u64 0,.int .u64 0] 132):=⟨_,rfl⟩;have hz:w0.heap[w.heap.size]? =some (.cells #[.int .u64 0,.int .u64 0,.int .u64 0,.int .u64 0] 132 (0,0)):=by rw[i];exact newAt0 w _
 have F0:=hid (show Fr nob w w0 by rw[i];exact(Fr.refl _ _).alloc _);have f:w0.heap.size=w.heap.size+1:=by rw[i];simp
 have rr:=Zl hz;have HZ:=hid hz;have HW:=hid i;clear hz i;by_cases h1:b=110
 case' pos=>
  subst h1;rw[Zmd];obtain⟨s,hs⟩:∃s,spn 10 10=s:=⟨_,rfl⟩;have ho:=Zqs w0 5;rw[hs,f]at ho;rw[hs];have HO:=hid ho;clear ho hs f
 rotate_left
 have t1:((b.toNat:Int)==110)=false:=Zn (b:=110) h1;by_cases h2:b=116
 case' pos=>
  subst h2;rw[Zme];obtain⟨s,hs⟩:∃s,spn 9 9=s:=⟨_,rfl⟩;have ho:=ZqW w0 5;rw[hs,f]at ho;rw[hs];have HO:=hid ho;clear ho hs f
 rotate_left
 have t2:((b.toNat:Int)==116)=false:=Zn (b:=116) h2;by_cases h3:b=119
 case' pos=>
  subst h3;rw[Zmf];have ho:=Zkt w0;obtain⟨s,hs⟩:∃s,Zdz=s:=⟨_,rfl⟩;rw[hs]at ho⊢;have HO:=hid ho;clear ho hs f
 rotate_left
 have t3:((b.toNat:Int)==119)=false:=Zn (b:=119) h3;by_cases h4:b=87
 case' pos=>
  subst h4;rw[ZnX];have ho:=Zkt w0;obtain⟨s0,hs⟩:∃s,Zdz=s:=⟨_,rfl⟩;rw[hs]at ho⊢;have g:=fun w=>not_lit s0 w;obtain⟨s,hu⟩:∃s,s0.not=s:=⟨_,rfl⟩;rw[hu]at g⊢;have HO:=hid ho;have n:=hid g;clear ho hs f g hu
 rotate_left
 have t4:((b.toNat:Int)==87)=false:=Zn (b:=87) h4;by_cases h5:b=115
 case' pos=>
  subst h5;rw[Zmg];have ho:=Zil w0;obtain⟨s,hs⟩:∃s,ZbX=s:=⟨_,rfl⟩;rw[hs]at ho⊢;have HO:=hid ho;clear ho hs f
 rotate_left
 have t5:((b.toNat:Int)==115)=false:=Zn (b:=115) h5;by_cases h6:b=83
 case' pos=>
  subst h6;rw[ZnY];have ho:=Zil w0;obtain⟨s0,hs⟩:∃s,ZbX=s:=⟨_,rfl⟩;rw[hs]at ho⊢;have g:=fun w=>not_lit s0 w;obtain⟨s,hu⟩:∃s,s0.not=s:=⟨_,rfl⟩;rw[hu]at g⊢;have HO:=hid ho;have n:=hid g;clear ho hs f g hu
 rotate_left
 ·have t6:((b.toNat:Int)==83)=false:=Zn (b:=83) h6;rw[Zku h1 h2 h3 h4 h5 h6];clear h1 h2 h3 h4 h5 h6;have hb:=b.toNat_lt;have j:Za0.fit:=Zdd _;have hc:=fun w=>Zb5 ⟨#[112,117,110,99,116]⟩ _ rfl w;rw[show ZaD (Zak ⟨#[112,117,110,99,116]⟩)=Za0 from rfl]at hc;have hh:=fun w=>Zj2 Za0 b.toNat w j (by omega);obtain⟨u,hu⟩:∃u,spn b.toNat b.toNat=u:=⟨_,rfl⟩;have ho:=Zb6 b;rw[hu]at ho⊢;obtain⟨q,hq⟩:∃q,Za0.has b.toNat=q:=⟨_,rfl⟩;rw[hq]at hh⊢;obtain⟨s,hs⟩:∃s,Za0=s:=⟨_,rfl⟩;rw[hs]at hc hh;have HO:=hid ho;have HC:=hid hc;have HH:=hid hh;clear ho hc hh hu hq hs j f;go_enter func138,ntmps138;go_wp2_with fail;rw[←HW.out];with_reducible refine(HC.out _).mono ?_
  rintro e w1 ⟨rfl,f1⟩;have F1:=hid f1;clear f1;go_wp2_with fail;have k:Q4 (w1.alloc (.cells #[.int .u64 s.a,.int .u64 s.b,.int .u64 s.c,.int .u64 s.d] 132)) w1.heap.size s:=Q4.of (newAt0 w1 _);obtain⟨w2,l⟩:∃w2,w2=w1.alloc (.cells #[.int .u64 s.a,.int .u64 s.b,.int .u64 s.c,.int .u64 s.d] 132):=⟨_,rfl⟩;rw[←l]at k⊢;have F2:=hid (show Fr nob w1 w2 by rw[l];exact(Fr.refl _ _).alloc _);have HQ:=hid k;clear k l;have m:=F2.out.heap (F1.out.heap HZ.out (fun x=>x)) (fun x=>x);clear rr;have rr:=Zl m;have t:=hid m;clear m;have o:w1.heap.size≠w.heap.size:=by have:=F1.out.size;have:=lt_heap HZ.out;omega
  have p:Calls prog 116 #[.slice (some ⟨w2.heap.size,0,none⟩) 1 1] (World.drew (w2.alloc (.cells #[.int .u8 b.toNat] 5))) fun e w'=>e=.returned (ZcR u)∧Fr nob w2 w':=(HO.out (World.drew w2) _).mono fun e w' h=>⟨h.1,(((Fr.refl nob w2).drew).alloc _).trans' h.2⟩;have r:=hid p;clear p HO
  go_region_held3 (fun w'=>Q4 w' w1.heap.size s) (first|(with_reducible exact HQ.out)|(with_reducible exact q4_on HQ.out ((Fr.refl nob w2).drew))|(with_reducible exact q4_on HQ.out (((Fr.refl nob w2).drew).alloc _))|(with_reducible exact q4_on HQ.out ((Fr.refl nob w2).alloc _))|(with_reducible exact q4_on HQ.out (((Fr.refl nob w2).alloc _).drew))|(with_reducible exact q4_on HQ.out G2)|(with_reducible exact q4_on HQ.out G1)|(with_reducible exact q4_four HQ.out G1 o _ _ _ _)|(with_reducible exact q4_four HQ.out G2 o _ _ _ _)|(trace_state;fail)) (first|(go_at_call 116;(with_reducible refine(r.out).mono ?_);rintro e g1 ⟨rfl,G1⟩)|(go_at_call 160;(with_reducible refine(HH.out _).mono ?_);rintro e g2 ⟨rfl,f2⟩;have G2:Fr nob w2 g2:=G1.trans' f2;clear f2))
  all_goals
   go_wp2;exact bodyPost_ret (Zx (s:=u) rfl rfl rfl rfl (setFour_heap (G2.heap t.out (fun x=>x)) _ _ _ _)) rfl ⟨rfl,Zp (((F0.out.trans' F1.out).trans' F2.out).trans' G2) (Nat.le_refl _) _ _ _ _⟩
 all_goals
  go_enter func138,ntmps138;go_wp2_with fail;rw[←HW.out];with_reducible refine HO.out.mono ?_
  rintro e w1 ⟨rfl,f1⟩;have f2:Fr nob w0 w1:=by first|exact f1|exact((Fr.refl _ _).alloc _).trans' f1
  clear f1
  (try(go_wp2_with fail;with_reducible refine(n.out _).mono ?_;rintro e w2 ⟨rfl,f3⟩;replace f2:=f2.trans' f3;clear f3))
  go_wp2;exact bodyPost_ret (Zx (s:=s) rfl rfl rfl rfl (setFour_heap (f2.heap HZ.out (fun x=>x)) _ _ _ _)) rfl ⟨rfl,Zp (F0.out.trans' f2) (Nat.le_refl _) _ _ _ _⟩
def ixC(l:List Nat)(n k:Nat):Int:=if(l.drop k).contains n then(k+(l.drop k).idxOf n:Nat)else -1
theorem Zn0{l:List Nat}{n k:Nat}(h:l.length≤k):ixC l n k= -1:=by
 unfold ixC;rw[List.drop_eq_nil_of_le h];rfl
theorem Zn1{l:List Nat}{n k:Nat}(h:k<l.length)(e:l[k]=n):ixC l n k=k:=by
 unfold ixC;rw[List.drop_eq_getElem_cons h,e];simp
theorem Zmh{l:List Nat}{n k:Nat}(h:k<l.length)(e:l[k]≠n):ixC l n k=ixC l n (k+1):=by
 unfold ixC;rw[List.drop_eq_getElem_cons h];have e':(l[k]==n)=false:=by simpa using e
 have e2:(n==l[k])=false:=by simpa using fun h=>e h.symm
 rw[List.contains_cons,e2,Bool.false_or,List.idxOf_cons,e'];split
 ·simp;omega
 ·rfl
theorem Zmi{l:List Nat}{n:Nat}:decide (0≤ixC l n 0)=l.contains n:=by
 unfold ixC;rw[List.drop_zero];cases h:l.contains n<;>simp
theorem OwC.get{w:World}{l:List Nat}{v:Value}(h:OwC w l v):∃a c,v=.slice a l.length c∧∀k (hk:k<l.length),∃g,a=some ⟨g,0,none⟩∧w.cell? ⟨g,k,none⟩=some (.int .i64 (l[k]:Nat)):=by
 have h0:=h;unfold OwC at h;rcases h.2 with⟨rfl,hn⟩|⟨gb,c,_,rfl,_⟩
 ·exact⟨none,0,by rw[hn],fun k hk=>by omega⟩
 ·refine⟨_,c,rfl,fun k hk=>⟨gb,rfl,?_⟩⟩;rw[h.cellAt k (by omega)];simp[List.getElem?_eq_getElem hk]
theorem Zmj(l:List Nat)(n:Nat)(v:Value)(w:World)(hl:l.length≤1000000)(h:OwC w l v):
 Calls prog 129 #[v,.int .i64 n] w fun e w'=>e=.returned (.int .i64 (ixC l n 0))∧w=w':=by
 obtain⟨a,c,rfl,hg⟩:=h.get;obtain⟨F,hF⟩:∃F,ixC l n 0=F:=⟨_,rfl⟩;rw[hF];have HF:=hid hF;have HG:=hid hg;clear hF hg h;go_enter func129,ntmps129;go_wp2_with fail
 go_loop [8] (fun i=>∃k:Nat,i=.int .i64 k∧k≤l.length∧ixC l n k=F) (fun i=>l.length-(intOf i).toNat)
 case atStart=>exact⟨0,rfl,Nat.zero_le _,HF.out⟩
 case round=>
  obtain⟨k,rfl,hk,hF⟩:=hrel;by_cases b:k<l.length
  ·obtain⟨g,rfl,hc⟩:=HG.out k b;obtain⟨x,hx⟩:∃x,l[k]=x:=⟨_,rfl⟩;rw[hx]at hc;by_cases he:l[k]=n
   ·rw[Zn1 b he]at hF;subst hF;have t1:((n:Int)==x)=true:=by rw[←hx,he];simp
    clear he hx;go_wp2;go_ret;exact⟨rfl,rfl⟩
   ·rw[Zmh b he]at hF;have HX:=hid hF;have t1:((n:Int)==x)=false:=by rw[hx]at he;simp;omega
    clear he hx hF;go_wp2
    go_round
    case rel=>exact⟨k+1,by go_num,by omega,HX.out⟩
    case measure=>simp[intOf];omega
  ·rw[Zn0 (by omega)]at hF;subst hF;go_wp2;go_ret;exact⟨rfl,rfl⟩
theorem Zhi(l:List Nat)(n:Nat)(v:Value)(w:World)(hl:l.length≤1000000)(h:OwC w l v):
 Calls prog 106 #[v,.int .i64 n] w fun e w'=>e=.returned (.bool (l.contains n))∧w=w':=by
 have hi:=Zmj l n v w hl h;obtain⟨a,c,rfl,_⟩:=h.get;clear h;go_enter func106,ntmps106;go_wp2_with((with_reducible refine hi.mono ?_);rintro e w' ⟨rfl,rfl⟩);go_ret;exact⟨ret_bool Zmi,rfl⟩
structure Sane(l:List UInt8)(s:RxS):Prop where
 le:s.at_≤l.length
 mr:s.marks.length≤s.at_
 cl:s.closed.length≤s.at_
 op:s.opened≤s.at_
structure Wd(W0:World)(S:Nat→Prop)(w:World):Prop where
 fr:Fr nob W0 w
 ge:∀k,S k→W0.heap.size≤k
 lt:∀k,S k→k<w.heap.size
theorem Wd.stp{W0:World}{S S':Nat→Prop}{w w':World}(h:Wd W0 S w)(k:Stp S w S' w'):Wd W0 S' w':=
 ⟨k.from h.fr h.ge,fun i hi=>by
  by_cases hlt:i<w.heap.size
  ·exact h.ge i (k.old i hlt hi)
  ·have:=h.fr.size;omega,k.lt h.lt⟩
def ZqO(l:List UInt8)(W0:World)(deep:Nat)(f:RxS→Out Nd):Prop:=
 ∀b s S (O:Nat→Prop) w,(∀k,O k→k<w.heap.size)→Sane l s→Wd W0 S w→Rdg b l s S w→Calls prog 33 #[.pointer (some ⟨b,0,none⟩),.int .i64 deep] w fun x w'=>ZbO b l S O w (f s) x w'
def Zpx(l:List UInt8)(f:RxS→Out Nd):Prop:=∀s,Sane l s→∀t s',f s=.inr (t,s')→Sane l s'∧s.at_≤s'.at_
theorem Zkv:(prog.info? 3).map (fun i=>(i.zero,i.size,i.bytes))=some (some (.int .i64 0),1,8):=by kernel_rfl
theorem RN.grp{S:Nat→Prop}{w:World}{t:Nd}{v:Value}(h:RN S w t v)(n:Int):RN S w (.group n t) (.iface 127 (.agg #[.int .i64 n,v])):=by
 rw[RN.eq_def];exact⟨v,rfl,h⟩
theorem Zfh(b:Nat)(l:List UInt8)(s:RxS)(S O:Nat→Prop)(w:World)(p:Nat):
 Calls prog 137 #[.pointer (some ⟨b,0,none⟩),.int .i64 (p:Nat),.int .i64 12] w fun x w'=>ZbO b l S O w (Zbs prg l none p s) x w':=by
 go_enter func137,ntmps137;go_wp2_with(go_at_call 82;(with_reducible refine(br_fail 4 p _).mono ?_);rintro e w' ⟨rfl,rfl⟩);exact⟨rfl,rfl,S,Stp.refl _ _⟩
theorem Zmk(b:Nat)(l:List UInt8)(W0:World)(deep:Nat)(f:RxS→Out Nd)(s:RxS)(S O:Nat→Prop)(w:World)(p:Nat)(hO:∀k,O k→k<w.heap.size)(hl:l.length≤100000)(hd:deep<12)(hC:ZqO l W0 (deep+1) f)(hK:Zpx l f)
 (hs:Sane l s) (h1:s.opened<s.at_) (hW:Wd W0 S w) (h:Rdg b l s S w):
 Calls prog 137 #[.pointer (some ⟨b,0,none⟩),.int .i64 (p:Nat),.int .i64 deep] w fun x w'=>ZbO b l S O w (Zbs prg l (some f) p s) x w':=by
 obtain⟨cv,mv,hB⟩:=h;obtain⟨⟨c0,c1,c2,c3,c4⟩,d0,d1,d2,d3,d4⟩:=Zd hB.blk _ (Fr.refl _ _);have v:Sane l {s with opened:=s.opened+1}:=⟨hs.le,hs.mr,hs.cl,h1⟩;have N:=hs.le;have X:=hs.op;obtain⟨w1,d⟩:∃w1,w1=w.setCell ⟨b,2,none⟩ (.int .i64 ((s.opened:Int)+1)):=⟨_,rfl⟩;have q:Br b l {s with opened:=s.opened+1} S cv mv w1:=by rw[d];exact hB.turned 2 _ _ (by simp) rfl rfl
 have r:Stp S w S w1:=by rw[d];exact hB.stp 2 _
 have hc:=hC b {s with opened:=s.opened+1} S O w1 (by rw[d];simpa[World.setCell]using hO) v (hW.stp r) ⟨cv,mv,q⟩;obtain⟨Z,hZ⟩:∃Z,f {s with opened:=s.opened+1}=Z:=⟨_,rfl⟩;rw[hZ,show((deep+1:Nat):Int)=(deep:Int)+1 from by simp]at hc;obtain⟨R,hR⟩:∃R,Zbs prg l (some f) p s=R:=⟨_,rfl⟩;rw[hR];unfold Zbs at hR;simp only[hZ]at hR;have HW:=hid d;have HC:=hid hc;have B:=hid r;have HK:=hid (hK _ v);have HZ:=hid hZ;have W:((deep:Int)==12)=false:=by simp;omega
 have V:(deep:Int)<12:=by omega
 have e2:w1.cell? ⟨b,2,none⟩=some (.int .i64 ((s.opened:Int)+1)):=by
  obtain⟨⟨_,_,k2,_⟩,_⟩:=Zd q.blk _ (Fr.refl _ _);simpa using k2
 clear d hc r q hK hC hZ hB v hd hO;go_enter func137,ntmps137;go_wp2_with(rw[←HW.out]);with_reducible refine(HC.out).mono ?_
 cases Z with
 |inl z=>
  obtain⟨z1,z2⟩:=z;rintro e w2 ⟨rfl,S2,n⟩;subst hR;exact⟨rfl,rfl,S2,B.out.trans n⟩
 |inr z=>
  obtain⟨t,s2⟩:=z;rintro e w2 ⟨i,y,S2,rfl,F,r2,n⟩;simp only at hR;obtain⟨m,a1⟩:=HK.out t s2 HZ.out;have Y:=m.le;have hT:=ZbN b l [92,41] s2 S2 w2 hl (by decide) m.le r2;have H:=hid F;have C:=hid (B.out.trans n);have I:=hid m;clear F r2 n m;cases hA:ahd l s2.at_ [92,41]with
  |false=>
   rw[hA]at hT;rw[if_neg (by rw[hA];decide)]at hR;subst hR;have HT:=hid hT;clear hT hA;go_wp2_with(first|((with_reducible refine(HT.out).mono ?_);rintro e w3 ⟨rfl,r3,t3⟩;have T3:=hid t3;clear r3 t3)|(go_at_call 82;(with_reducible refine(br_fail 8 p _).mono ?_);rintro e w' ⟨rfl,rfl⟩));exact⟨rfl,rfl,S2,C.out.trans T3.out⟩
  |true=>
   have J:=ahd_le hA (by decide);simp only[List.length_cons,List.length_nil]at J;rw[hA]at hT;rw[if_pos hA]at hR;subst hR;simp only[if_true]at hT;have HT:=hid hT;clear hT hA;go_wp2_with fail;refine(HT.out).mono ?_;rintro e w3 ⟨rfl,⟨Q,a0,g⟩,t3⟩;have A:=hid g;have T3:=hid t3;clear t3;obtain⟨a3,P,rfl⟩:=Zb g.cl;obtain⟨i0,hi,K,L,M⟩:=info_parts Zkv;have rr:=Zd g.blk;have o:(s2.go 2).closed.length≤100000:=by have:=I.out.cl;show s2.closed.length≤_;omega
   clear g;go_wp2_with(at_builtin;refine wpList_append_g rfl _ _ 81 rfl 3 i0 (.int .i64 0) 1 8 underlying81 hi K L M rfl (by decide) _ _ _ rfl (ownsRow_fr A.out.cl ((Fr.refl nob w3).alloc _) (fun _ _ x=>x)) ⟨w3.heap.size,0,none⟩ 1 1 [.int .i64 ((s.opened:Int)+1)] rfl rfl ?c1 ?c2 ?c3 ?c4 ?_)
   case c1=>intro j u hj;match j,hj with|0,hj=>simp at hj;subst hj;simp[Addr.add]
   case c2=>intro u hu;simp at hu;subst hu;rfl
   case c3=>unfold maxLen;exact Nat.le_trans (Nat.succ_le_succ o) (by decide)
   case c4=>exact Nat.le_trans (Nat.mul_le_mul_right 8 (Nat.succ_le_succ o)) (by decide)
   intro v' w4 a E;obtain⟨av,U,rfl⟩:=Zb a;have c:=a;rw[show((s.opened:Int)+1)=((s.opened+1:Nat):Int)from by simp]at c;obtain⟨⟨pc,pf⟩,r4,G⟩:=A.out.pushC ((Fr.refl nob w3).alloc _) E c;have R4:=hid r4;have D:=hid (T3.out.trans G);clear a c E r4 G rr;go_wp2;go_ret;refine⟨_,_,_,rfl,?_,R4.out,C.out.trans D.out⟩;have:=(D.out.rn H.out).grp ((s.opened+1:Nat):Int);rw[show(((s.opened+1:Nat):Int))=(s.opened:Int)+1 from by simp]at this;exact this
def ZoT(l:List UInt8)(W0:World)(deep:Nat)(C:Option (RxS→Out Nd)):Prop:=
 ∀b s S (O:Nat→Prop) w (p:Nat),(∀k,O k→k<w.heap.size)→Sane l s→s.opened<s.at_→Wd W0 S w→Rdg b l s S w→Calls prog 137 #[.pointer (some ⟨b,0,none⟩),.int .i64 p,.int .i64 deep] w fun x w'=>ZbO b l S O w (Zbs prg l C p s) x w'
theorem Zf4{l:List UInt8}{C:Option (RxS→Out Nd)}{s:RxS}(h:l.length≤s.at_+1):ZlI prg l C s=.inl (11,s.at_):=by
 unfold ZlI;rw[List.getElem?_eq_none h]
theorem Zkw{l:List UInt8}{C:Option (RxS→Out Nd)}{s:RxS}(h:s.at_+1<l.length):ZlI prg l C s=
 if ahd l s.at_ [92,40]then Zbs prg l C s.at_ (s.go 2)
 else if ahd l s.at_ [92,41]then .inl (8,s.at_)
 else if 49≤l[s.at_+1].toNat∧l[s.at_+1].toNat≤57 then
  (if s.closed.contains (l[s.at_+1].toNat-48)then .inr (.back ((l[s.at_+1].toNat-48:Nat):Int),s.go 2)else .inl (9,s.at_))
 else if(Zim l[s.at_+1]).2.2 then .inr (.one (Zim l[s.at_+1]).1,(if(Zim l[s.at_+1]).2.1 then s.mark [92,l[s.at_+1]]else s).go 2)else .inl (2,s.at_):=by
 unfold ZlI;rw[List.getElem?_eq_getElem h];simp only[prg];split
 ·rfl
 ·split
  ·rfl
  ·split
   ·rfl
   ·unfold Zim;cases ZjI l[s.at_+1]with
    |none=>rfl
    |some q=>obtain⟨c,m⟩:=q;rfl
theorem Zkx(b:Nat)(l:List UInt8)(W0:World)(deep:Nat)(C:Option (RxS→Out Nd))(s:RxS)(S O:Nat→Prop)(w:World)(hO:∀k,O k→k<w.heap.size)(hl:l.length≤100000)(hd:deep≤12)(hG:ZoT l W0 deep C)
 (hs:Sane l s) (ha:s.at_<l.length) (h92:l[s.at_]=92) (hW:Wd W0 S w) (h:Rdg b l s S w):
 Calls prog 113 #[.pointer (some ⟨b,0,none⟩),.int .i64 deep] w fun x w'=>ZbO b l S O w (ZlI prg l C s) x w':=by
 obtain⟨R,hR⟩:∃R,ZlI prg l C s=R:=⟨_,rfl⟩;rw[hR];have hr:=h;obtain⟨cv,mv,hB⟩:=h;have rr:=Zd hB.blk;have HR:=hid hr;have HG:=hid hG;have HS:=hid hs;have HW:=hid hW;have HB:=hid hB;have b2:(deep:Int)≤12:=by omega
 have b4:=hs.op;have b3:=hs.mr;have b1:=hs.cl;clear hr hG hs hW hB hd;by_cases K:s.at_+1<l.length
 ·rw[Zkw K]at hR;obtain⟨x,hx⟩:∃x,l[s.at_+1]=x:=⟨_,rfl⟩;rw[hx]at hR;have a5:¬(l.length:Int)≤(s.at_:Int)+1:=by omega
  have HT:=hid (ZbN b l [92,40] s S w hl (by decide) (by omega) HR.out);cases e1:ahd l s.at_ [92,40]with
  |true=>
   rw[if_pos e1]at hR;rw[e1]at HT;simp only[if_true]at HT;go_enter func113,ntmps113;go_wp2_with fail;with_reducible refine(HT.out).mono ?_
   rintro e w1 ⟨rfl,r1,t1⟩;have hg:=HG.out b (s.go 2) S O w1 s.at_ (fun k hk=>Nat.lt_of_lt_of_le (hO k hk) t1.fr.size) ⟨by show s.at_+2≤_;omega,by show s.marks.length≤s.at_+2;omega,by show s.closed.length≤s.at_+2;omega,by show s.opened≤s.at_+2;omega⟩ (by show s.opened<s.at_+2;omega) (HW.out.stp t1) r1;rw[hR]at hg;have Y:=hid hg;have T1:=hid t1;clear hg r1 t1 rr e1 hR;go_wp2_with fail;with_reducible refine(Y.out).mono ?_
   cases R with
   |inl z=>
    obtain⟨z1,z2⟩:=z;rintro e w2 ⟨rfl,S2,J⟩;exact⟨rfl,rfl,S2,T1.out.trans J⟩
   |inr z=>
    obtain⟨t,s2⟩:=z;rintro e w2 ⟨i,y,S2,rfl,V,r2,J⟩;have Z:=hid V;have R2:=hid r2;have a0:=hid (T1.out.trans J);clear V r2 J;go_wp2;go_ret;exact⟨_,_,S2,rfl,Z.out,R2.out,a0.out⟩
  |false=>
   rw[if_neg (by rw[e1];decide)]at hR;rw[e1]at HT;simp only[Bool.false_eq_true,if_false]at HT;go_enter func113,ntmps113;go_wp2_with fail;with_reducible refine(HT.out).mono ?_
   rintro e w1 ⟨rfl,r1,t1⟩;have hA:=Zcg b l [92,41] s S w1 (by omega) (by decide) (by omega) r1;obtain⟨a8,b8,Q⟩:=r1;have X:=hid Q;have T1:=hid t1;clear t1 rr e1 Q;cases e2:ahd l s.at_ [92,41]with
   |true=>
    rw[if_pos e2]at hR;subst hR;rw[e2]at hA;have HA:=hid hA;clear hA e2;go_wp2_with(first|((with_reducible refine(HA.out).mono ?_);rintro e w2 ⟨rfl,f2⟩;have F2:=hid f2;clear f2)|(go_at_call 82;(with_reducible refine(br_fail 8 _ _).mono ?_);rintro e w' ⟨rfl,rfl⟩));exact⟨rfl,rfl,S,T1.out.trans (Stp.of F2.out)⟩
   |false=>
    rw[if_neg (by rw[e2];decide)]at hR;rw[e2]at hA;have HA:=hid hA;clear hA e2;go_wp2_with fail;with_reducible refine(HA.out).mono ?_
    rintro e w2 ⟨rfl,f2⟩;have G:=X.out.on f2;have W:=Zd G.blk;obtain⟨a2,a7,a4⟩:=Zb G.cl;subst a4;have r:=hid G;have T2:=hid (T1.out.trans (Stp.of f2));clear G f2;have b0:(s.at_:Int)+1<l.length:=by omega
    by_cases hd:49≤x.toNat∧x.toNat≤57
    ·rw[if_pos hd]at hR;obtain⟨H,I⟩:=hd;obtain⟨n,hn⟩:∃n,x.toNat=n+48:=⟨x.toNat-48,by omega⟩;rw[hn]at hR H I;rw[show n+48-48=n from by omega]at hR;have b6:IntKind.u8.wrap (n:Int)=n:=IntWalk.u8_in _ (by omega);have hN:=Zhi s.closed n _ w2 (by omega) r.out.cl;cases hq:s.closed.contains n with
     |true=>
      rw[if_pos hq]at hR;subst hR;rw[hq]at hN;have HN:=hid hN;clear hN hq;go_wp2_with((with_reducible refine(HN.out).mono ?_);rintro e w3 ⟨rfl,rfl⟩);go_ret;exact⟨_,_,S,rfl,by rw[RN],⟨_,_,r.out.turned 1 _ (s.go 2) (by simp[RxS.go]) rfl rfl⟩,T2.out.trans (r.out.stp 1 _)⟩
     |false=>
      rw[if_neg (by rw[hq];decide)]at hR;subst hR;rw[hq]at hN;have HN:=hid hN;clear hN hq;go_wp2_with(first|((with_reducible refine(HN.out).mono ?_);rintro e w3 ⟨rfl,rfl⟩)|(go_at_call 82;(with_reducible refine(br_fail 9 _ _).mono ?_);rintro e w' ⟨rfl,rfl⟩));exact⟨rfl,rfl,S,T2.out⟩
    ·rw[if_neg hd]at hR;have v:x.toNat<49∨(49≤x.toNat∧57<x.toNat):=by omega
     have hE:=Zji x w2;have b7:=x.toNat_lt;have a6:=Zaf (P:=prog) l (lo:=(s.at_:Int)) (hi:=(s.at_:Int)+2) underlying9 (by omega) (by omega) (by omega);have U:List.take (((s.at_:Int)+2).toNat-((s.at_:Int)).toNat) (List.drop ((s.at_:Int)).toNat l)=[92,x]:=by
      rw[show((s.at_:Int)).toNat=s.at_ from by omega,show((s.at_:Int)+2).toNat-s.at_=2 from by omega,List.drop_eq_getElem_cons ha,List.drop_eq_getElem_cons K,h92,hx];rfl
     rw[U]at a6;obtain⟨⟨c,m,k⟩,hq⟩:∃q,Zim x=q:=⟨_,rfl⟩;rw[hq]at hE hR;simp only at hR;have HE:=hid hE;have HX:=hid hq;clear hd hE U hq;cases k with
     |false=>
      rw[if_neg (by decide)]at hR;subst hR;rcases v with v|⟨H,I⟩
      all_goals
       go_wp2_with(first|((with_reducible refine(HE.out).mono ?_);rintro e w3 ⟨rfl,f3⟩;have F3:=hid f3;clear f3)|(go_at_call 82;(with_reducible refine(br_fail 2 _ _).mono ?_);rintro e w' ⟨rfl,rfl⟩));exact⟨rfl,rfl,S,T2.out.trans (Stp.of ((F3.out).alloc _))⟩
     |true=>
      rw[if_pos rfl]at hR;subst hR;cases m with
      |false=>
       rcases v with v|⟨H,I⟩
       all_goals
        go_wp2_with fail;with_reducible refine(HE.out).mono ?_
        rintro e w3 ⟨rfl,f3⟩;obtain⟨w4,o⟩:∃w4,w4=w3.alloc (.cells #[.int .u64 c.a,.int .u64 c.b,.int .u64 c.c,.int .u64 c.d] 132):=⟨_,rfl⟩;have f4:Fr nob w2 w4:=by rw[o];exact f3.alloc _
        have u:=r.out.on f4;have E:Q4 w4 w3.heap.size c:=by rw[o];exact Q4.of (newAt0 w3 _)
        have a3:b<w3.heap.size:=Nat.lt_of_lt_of_le (lt_heap r.out.blk) f3.size;have D:¬S w3.heap.size:=fun hk=>by have:=(HW.out.stp T2.out).lt _ hk;have:=f3.size;omega
        obtain⟨⟨k0,k1,_⟩,_,j1,_⟩:=Zd u.blk _ (Fr.refl _ _);have L:=hid o;have F:=hid u;have f:=hid E;have T4:=hid (T2.out.trans (Stp.of f4));clear o f4 f3 u E W;simp only;have A:Q4 (w4.setCell ⟨b,1,none⟩ (.int .i64 ((s.at_:Int)+2))) w3.heap.size c:=by
         have g:=(Fr.refl (fun k=>k=b) w4).setCell (p:=⟨b,1,none⟩) (fun _=>rfl) (.int .i64 ((s.at_:Int)+2));have j:w3.heap.size≠b:=by omega
         exact⟨g.cell f.out.1 j,g.cell f.out.2.1 j,g.cell f.out.2.2.1 j,g.cell f.out.2.2.2 j⟩
        go_wp2_with(rw[←L.out]);go_ret;exact⟨_,_,S,rfl,by rw[RN];rfl,⟨_,_,F.out.turned 1 _ (s.go 2) (by simp[RxS.go]) rfl rfl⟩,T4.out.trans (F.out.stp 1 _)⟩
      |true=>
       rcases v with v|⟨H,I⟩
       all_goals
        go_wp2_with fail;with_reducible refine(HE.out).mono ?_
        rintro e w3 ⟨rfl,f3⟩;obtain⟨w4,o⟩:∃w4,w4=w3.alloc (.cells #[.int .u64 c.a,.int .u64 c.b,.int .u64 c.c,.int .u64 c.d] 132):=⟨_,rfl⟩;have f4:Fr nob w2 w4:=by rw[o];exact f3.alloc _
        have u:=r.out.on f4;have E:Q4 w4 w3.heap.size c:=by rw[o];exact Q4.of (newAt0 w3 _)
        have a3:b<w3.heap.size:=Nat.lt_of_lt_of_le (lt_heap r.out.blk) f3.size;have D:¬S w3.heap.size:=fun hk=>by have:=(HW.out.stp T2.out).lt _ hk;have:=f3.size;omega
        obtain⟨⟨k0,k1,_⟩,_,j1,_⟩:=Zd u.blk _ (Fr.refl _ _);have L:=hid o;have F:=hid u;have f:=hid E;have T4:=hid (T2.out.trans (Stp.of f4));clear o f4 f3 u E W;simp only;go_wp2_with(rw[←L.out]);refine(br_mark b l [92,x] s S w4 (by omega) ⟨_,_,F.out⟩).mono ?_;rintro e w5 ⟨rfl,S5,⟨a9,b9,M⟩,B⟩;have j:w3.heap.size≠b:=by omega
        have A:Q4 w5 w3.heap.size c:=⟨B.fr.cell f.out.1 D,B.fr.cell f.out.2.1 D,B.fr.cell f.out.2.2.1 D,B.fr.cell f.out.2.2.2 D⟩;have b5:Q4 (w5.setCell ⟨b,1,none⟩ (.int .i64 ((s.at_:Int)+2))) w3.heap.size c:=by
         have g:=(Fr.refl (fun k=>k=b) w5).setCell (p:=⟨b,1,none⟩) (fun _=>rfl) (.int .i64 ((s.at_:Int)+2));exact⟨g.cell A.1 j,g.cell A.2.1 j,g.cell A.2.2.1 j,g.cell A.2.2.2 j⟩
        obtain⟨⟨_,n1,_⟩,_,n2,_⟩:=Zd M.blk _ (Fr.refl _ _);rw[show(s.mark [92,x]).at_=s.at_ from rfl]at n1;have N:=hid M;have a1:=hid (T4.out.trans B);clear M B A k0 k1 j1;go_wp2;go_ret;exact⟨_,_,S5,rfl,by rw[RN];rfl,⟨_,_,N.out.turned 1 _ ((s.mark [92,x]).go 2) (by simp[RxS.go,RxS.mark]) rfl rfl⟩,a1.out.trans (N.out.stp 1 _)⟩
 ·rw[Zf4 (by omega)]at hR;subst hR;have a5:(l.length:Int)≤(s.at_:Int)+1:=by omega
  go_enter func113,ntmps113;go_wp2_with(go_at_call 82;(with_reducible refine(br_fail 11 _ _).mono ?_);rintro e w' ⟨rfl,rfl⟩);exact⟨rfl,rfl,S,Stp.refl _ _⟩
end Go.Proofs.YtgllcniibbaoaaaGreatDoor
