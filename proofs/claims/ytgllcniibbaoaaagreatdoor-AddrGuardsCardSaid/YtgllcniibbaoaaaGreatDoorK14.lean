/- Lemmas of this claim. -/
import Derived.Test.YtgllcniibbaoaaaGreatDoorK11
import Derived.Test.YtgllcniibbaoaaaGreatDoorK13
set_option linter.all false
set_option maxRecDepth 100000
set_option maxHeartbeats 24000000
namespace Go.Proofs.YtgllcniibbaoaaaGreatDoor
open Go.Lib (hid)
open Go.RowKit
def mkC(l:List (Nat×List UInt8)):List Value:=l.flatMap fun m=>[.int .i64 (m.1:Nat),.string ⟨m.2.toArray⟩]
def OwC(w:World)(l:List Nat)(v:Value):Prop:=w.ownsRow 0 3 1 v l.length (l.map fun(n:Nat)=>Value.int .i64 n)
def OwM(w:World)(l:List (Nat×List UInt8))(v:Value):Prop:=w.ownsRow 0 95 2 v l.length (mkC l)
structure Br(b:Nat)(l:List UInt8)(s:RxS)(S:Nat→Prop)(cv mv:Value)(w:World):Prop where
 blk:w.heap[b]? =some (.cells #[.string ⟨l.toArray⟩,.int .i64 s.at_,.int .i64 s.opened,cv,mv] 83 (0,0))
 cl:OwC w s.closed cv
 ma:OwM w s.marks mv
 nc:∀k,cv.ownBlock=some k→k≠b∧S k
 nm:∀k,mv.ownBlock=some k→k≠b∧S k
 ne:∀k,cv.ownBlock=some k→mv.ownBlock≠some k
 me:S b
def Rdg(b:Nat)(l:List UInt8)(s:RxS)(S:Nat→Prop)(w:World):Prop:=∃cv mv,Br b l s S cv mv w
structure Stp(S:Nat→Prop)(w:World)(S':Nat→Prop)(w':World):Prop where
 fr:Fr S w w'
 old:∀k,k<w.heap.size→S' k→S k
 lt:(∀k,S k→k<w.heap.size)→∀k,S' k→k<w'.heap.size
theorem Stp.refl(S:Nat→Prop)(w:World):Stp S w S w:=⟨Fr.refl _ _,fun _ _ h=>h,fun h=>h⟩
theorem Stp.trans{S S' S'':Nat→Prop}{w w' w'':World}(h:Stp S w S' w')(k:Stp S' w' S'' w''):Stp S w S'' w'':=
 ⟨h.fr.trans k.fr (fun i hi x=>h.old i hi x),fun i hi x=>h.old i hi (k.old i (Nat.lt_of_lt_of_le hi h.fr.size) x),fun hl=>k.lt (h.lt hl)⟩
theorem Stp.of{S:Nat→Prop}{w w':World}(h:Fr nob w w'):Stp S w S w':=⟨h.any,fun _ _ x=>x,fun hl k hk=>Nat.lt_of_lt_of_le (hl k hk) h.size⟩
def SO(S O:Nat→Prop):Nat→Prop:=fun k=>S k∨O k
theorem Stp.rn{S S' O:Nat→Prop}{w w':World}(h:Stp S w S' w'){t:Nd}{v:Value}(k:RN (SO S O) w t v):RN (SO S' O) w' t v:=RN.keep h.fr (fun _ _ x=>.inl x) (fun i hi x=>x.elim (fun y=>.inl (h.old i hi y)) .inr) t v k
theorem Stp.from{S S':Nat→Prop}{W w w':World}(h:Stp S w S' w')(f:Fr nob W w)(hS:∀k,S k→W.heap.size≤k):Fr nob W w':=
 f.trans h.fr (fun i hi x=>by have:=hS i x;omega)
theorem Br.on{b:Nat}{l:List UInt8}{s:RxS}{S:Nat→Prop}{cv mv:Value}{w w':World}(h:Br b l s S cv mv w)(f:Fr nob w w'):Br b l s S cv mv w':=
 ⟨f.heap h.blk (fun x=>x),ownsRow_fr h.cl f (fun _ _ x=>x),ownsRow_fr h.ma f (fun _ _ x=>x),h.nc,h.nm,h.ne,h.me⟩
theorem Rdg.on{b:Nat}{l:List UInt8}{s:RxS}{S:Nat→Prop}{w w':World}(h:Rdg b l s S w)(f:Fr nob w w'):Rdg b l s S w':=by
 obtain⟨cv,mv,h⟩:=h;exact⟨cv,mv,h.on f⟩
theorem Br.turned{b:Nat}{l:List UInt8}{s:RxS}{S:Nat→Prop}{cv mv:Value}{w:World}(h:Br b l s S cv mv w)(j:Nat)(u:Value)(s':RxS)
 (hj:(#[.string ⟨l.toArray⟩,.int .i64 s.at_,.int .i64 s.opened,cv,mv]:Array Value).setIfInBounds j u= #[.string ⟨l.toArray⟩,.int .i64 s'.at_,.int .i64 s'.opened,cv,mv]) (hc:s'.closed=s.closed) (hm:s'.marks=s.marks):
 Br b l s' S cv mv (w.setCell ⟨b,j,none⟩ u):=by
 have hf:=(Fr.refl (fun k=>k=b) w).setCell (p:=⟨b,j,none⟩) (fun _=>rfl) u;have hb:=Za h.blk j u;rw[hj]at hb;exact⟨hb,by rw[hc];exact ownsRow_fr h.cl hf (fun k hk e=>(h.nc k hk).1 e),by rw[hm];exact ownsRow_fr h.ma hf (fun k hk e=>(h.nm k hk).1 e),h.nc,h.nm,h.ne,h.me⟩
theorem Br.stp{b:Nat}{l:List UInt8}{s:RxS}{S:Nat→Prop}{cv mv:Value}{w:World}(h:Br b l s S cv mv w)(j:Nat)(u:Value):Stp S w S (w.setCell ⟨b,j,none⟩ u):=
 ⟨(Fr.refl S w).setCell (p:=⟨b,j,none⟩) (fun _=>h.me) u,fun _ _ x=>x,fun hl k hk=>by have:=hl k hk;simpa[World.setCell]using this⟩
theorem Zcg(b:Nat)(l t:List UInt8)(s:RxS)(S:Nat→Prop)(w:World)(hl:l.length≤1000000)(ht:t.length≤1000000)(ha:s.at_≤l.length)(h:Rdg b l s S w):
 Calls Tryz.prog 53 #[.pointer (some ⟨b,0,none⟩),.string ⟨t.toArray⟩] w fun x w'=>x=.returned (.bool (ahd l s.at_ t))∧Fr nob w w':=by
 obtain⟨cv,mv,h⟩:=h;have rr:=Zd h.blk;clear h;have c:(s.at_:Int)≤l.length:=by omega
 have hP:=fun w:World=>ZL (l.drop s.at_) t w (by simp;omega) (by omega);have a:=hid hP;clear hP;go_enter Tryz.func53,Tryz.ntmps53;go_wp2_with fail;refine region_fr 10 (by kernel_rfl) (by kernel_rfl) ?_;simp only[List.take_succ_cons,List.take_zero,List.drop_succ_cons,List.drop_zero]
 repeat(quiet_step (fail))
 refine wpQuiet_nil ?_;intro wC fC;go_wp2_with fail;refine(a.out _).mono ?_;rintro e w2 ⟨rfl,rfl⟩;go_wp2;go_ret;exact⟨rfl,fC⟩
theorem ZnV(b:Nat)(l:List UInt8)(s:RxS)(S:Nat→Prop)(w:World)(hl:l.length≤1000000)(h:Rdg b l s S w):
 Calls Tryz.prog 81 #[.pointer (some ⟨b,0,none⟩)] w fun x w'=>x=.returned (.bool (decide (l.length≤s.at_)))∧Fr nob w w':=by
 obtain⟨cv,mv,h⟩:=h;have rr:=Zd h.blk;clear h;have hd:decide ((l.length:Int)≤(s.at_:Int))=decide (l.length≤s.at_):=by simp
 go_enter Tryz.func81,Tryz.ntmps81;go_wp2_with fail;refine region_fr 9 (by kernel_rfl) (by kernel_rfl) ?_;simp only[List.take_succ_cons,List.take_zero,List.drop_succ_cons,List.drop_zero]
 repeat(quiet_step (fail))
 refine wpQuiet_nil ?_;intro wC fC;go_wp2;go_ret;exact⟨ret_bool (by simp),fC⟩
theorem Zko(b:Nat)(l:List UInt8)(s:RxS)(S:Nat→Prop)(w:World)(hl:l.length≤1000000)(ha:s.at_<l.length)(h:Rdg b l s S w):
 Calls Tryz.prog 83 #[.pointer (some ⟨b,0,none⟩)] w fun x w'=>x=.returned (.bool (ZbL l s.at_))∧Fr nob w w':=by
 obtain⟨cv,mv,h⟩:=h;have rr:=Zd h.blk;clear h;have k:(s.at_:Int)+1≤l.length:=by omega
 have hw:IntKind.i64.wrap ((s.at_:Int)+1)=s.at_+1:=IntWalk.i64_in _ (by omega);obtain⟨R,hR⟩:∃R,l.drop (s.at_+1)=R:=⟨_,rfl⟩;have j:R.length≤1000000:=by rw[←hR,List.length_drop];omega
 have g:=fun w:World=>ZL R [92,41] w (by omega) (by decide);have i:=fun w:World=>ZL R [92,124] w (by omega) (by decide);have d:=hid g;have f:=hid i;clear g i;unfold ZbL ahd;rw[hR];go_enter Tryz.func83,Tryz.ntmps83;go_wp2_with fail;refine region_fr 9 (by kernel_rfl) (by kernel_rfl) ?_;simp only[List.take_succ_cons,List.take_zero,List.drop_succ_cons,List.drop_zero]
 repeat(quiet_step (fail))
 refine wpQuiet_nil ?_;intro wC fC;obtain⟨p1,h1⟩:∃p,([92,41]:List UInt8).isPrefixOf R=p:=⟨_,rfl⟩;obtain⟨p2,h2⟩:∃p,([92,124]:List UInt8).isPrefixOf R=p:=⟨_,rfl⟩;rw[h1]at d;rw[h2]at f;have a:(R.isEmpty||([92,41]:List UInt8).isPrefixOf R||([92,124]:List UInt8).isPrefixOf R)=(R.isEmpty||p1||p2):=by rw[h1,h2]
 have c:=hid a;clear h1 h2 a;cases hE:R.isEmpty<;>cases p1<;>cases p2
 all_goals
  rw[hE]at c;go_wp2_with(first|(go_at_call 87;refine(d.out _).mono ?_;rintro e w' ⟨rfl,rfl⟩)|(go_at_call 87;refine(f.out _).mono ?_;rintro e w' ⟨rfl,rfl⟩));go_ret;exact⟨ret_bool (by rw[hE];exact c.out.symm),fC⟩
theorem ZbN(b:Nat)(l t:List UInt8)(s:RxS)(S:Nat→Prop)(w:World)(hl:l.length≤100000)(ht:t.length≤1000)(ha:s.at_≤l.length)(h:Rdg b l s S w):
 Calls Tryz.prog 80 #[.pointer (some ⟨b,0,none⟩),.string ⟨t.toArray⟩] w fun x w'=>x=.returned (.bool (ahd l s.at_ t))∧Rdg b l (if ahd l s.at_ t then s.go t.length else s) S w'∧Stp S w S w':=by
 have hA:=Zcg b l t s S w (by omega) (by omega) ha h;obtain⟨cv,mv,h⟩:=h;obtain⟨c,hc⟩:∃c,ahd l s.at_ t=c:=⟨_,rfl⟩;rw[hc]at hA⊢;have HB:=hid h;clear h;go_enter Tryz.func80,Tryz.ntmps80;go_wp2_with fail;refine hA.mono ?_;rintro e w1 ⟨rfl,f1⟩;have d:=HB.out.on f1;obtain⟨⟨c0,c1,c2,c3,c4⟩,d0,d1,d2,d3,d4⟩:=Zd d.blk _ (Fr.refl _ _);have a:=hid d;have F1:=hid f1;clear d f1;cases c with
 |false=>
  go_wp2;go_ret;exact⟨rfl,⟨cv,mv,a.out⟩,Stp.of F1.out⟩
 |true=>
  go_wp2;go_ret;exact⟨rfl,⟨cv,mv,a.out.turned 1 _ (s.go t.length) (by simp[RxS.go]) rfl rfl⟩,(Stp.of F1.out).trans (a.out.stp 1 _)⟩
def Zkp(e:Int)(p:Nat):List PanicEntry:=[{v:=.iface 79 (.agg #[.int .i64 e,.int .i64 (p:Nat)]),recovered:=false}]
theorem br_fail(e:Int)(p:Nat)(w:World):
 Calls Tryz.prog 82 #[.int .i64 e,.int .i64 (p:Nat)] w fun x w'=>x=.panicked (Zkp e p)∧w=w':=by
 go_enter Tryz.func82,Tryz.ntmps82;go_wp2;exact⟨rfl,rfl,rfl⟩
theorem Zff{l:List UInt8}{k c n:Nat}(h:l.length≤k):ZaQ (l.drop k) c n=(n,c):=by
 rw[List.drop_eq_nil_of_le h];rfl
theorem Zd5{l:List UInt8}{k c n:Nat}(h:k<l.length)(hd:¬(48≤l[k].toNat∧l[k].toNat≤57∧c≠3)):ZaQ (l.drop k) c n=(n,c):=by
 rw[List.drop_eq_getElem_cons h,ZaQ,if_neg hd]
theorem ZfY{l:List UInt8}{k c n:Nat}(h:k<l.length)(hd:48≤l[k].toNat∧l[k].toNat≤57∧c≠3):ZaQ (l.drop k) c n=ZaQ (l.drop (k+1)) (c+1) (n*10+(l[k].toNat-48)):=by
 rw[List.drop_eq_getElem_cons h,ZaQ,if_pos hd]
theorem Zkq:∀(r:List UInt8) (c n:Nat),c≤3→n<10^c→(ZaQ r c n).2≤3∧(ZaQ r c n).1<10^(ZaQ r c n).2∧c≤(ZaQ r c n).2∧(ZaQ r c n).2≤c+r.length
 |[],c,n,h,hn=>⟨h,hn,Nat.le_refl _,by simp[ZaQ]⟩
 |x::r,c,n,h,hn=>by
  rw[ZaQ];split
  ·next hd=>
   have hn2:n*10+(x.toNat-48)<10^(c+1):=by rw[Nat.pow_succ];omega
   have ih:=Zkq r (c+1) (n*10+(x.toNat-48)) (by omega) hn2;refine⟨ih.1,ih.2.1,by omega,?_⟩;have:=ih.2.2.2;rw[List.length_cons];omega
  ·exact⟨h,hn,Nat.le_refl _,by simp⟩
theorem Zfg{S:Nat→Prop}{a w:World}(h:Fr S a w)(s:ByteArray)(p:Nat):Fr S a (w.iter s p):=h.alloc _
def p10(c:Nat):Nat:=10^c
theorem Zih(c:Nat):p10 (c+1)=p10 c*10:=by unfold p10;rw[Nat.pow_succ]
theorem Zkr{c:Nat}(h:c≤3):p10 c≤1000:=by unfold p10;exact Nat.le_trans (Nat.pow_le_pow_right (by omega) h) (by omega)
theorem ZfZ(b:Nat)(l:List UInt8)(s:RxS)(S:Nat→Prop)(w:World)(hl:l.length≤100000)(ha:s.at_≤l.length)(h:Rdg b l s S w):
 Calls Tryz.prog 136 #[.pointer (some ⟨b,0,none⟩)] w fun x w'=>
  x=.returned (.tuple #[.int .i64 (ZaQ (l.drop s.at_) 0 0).1,.bool (decide (0<(ZaQ (l.drop s.at_) 0 0).2))])∧Rdg b l (s.go (ZaQ (l.drop s.at_) 0 0).2) S w'∧Stp S w S w':=by
 obtain⟨cv,mv,h⟩:=h;have rr:=Zd h.blk;have HB:=hid h;clear h;have D:(s.at_:Int)≤l.length:=by omega
 obtain⟨F,hF⟩:∃F,ZaQ (l.drop s.at_) 0 0=F:=⟨_,rfl⟩;rw[hF];have HF:=hid hF;clear hF;go_enter Tryz.func136,Tryz.ntmps136;go_wp2_with fail;refine region_fr 8 (by kernel_rfl) (by kernel_rfl) ?_;simp only[List.take_succ_cons,List.take_zero,List.drop_succ_cons,List.drop_zero]
 repeat(quiet_step (fail))
 refine wpQuiet_nil ?_;intro wC fC;have rc:∀(q:ByteArray) (p:Nat),(wC.iter q p).cell? ⟨b,1,none⟩=some (.int .i64 s.at_)∧(wC.iter q p).frozen? ⟨b,1,none⟩=false:=fun q p=>by
  obtain⟨⟨_,c1,_⟩,_,d1,_⟩:=rr _ (Zfg fC q p);exact⟨c1,d1⟩
 have B:=hid (fun(q:ByteArray) (p:Nat)=>HB.out.on (Zfg fC q p));have FC:=hid fC;clear rr fC;go_wp2_with fail
 go_loopw [4,5] (fun n c wr=>∃m k:Nat,n=.int .i64 m∧c=.int .i64 k∧wr=wC.iter ⟨(l.drop s.at_).toArray⟩ k∧k≤3∧s.at_+k≤l.length∧m<p10 k∧ZaQ (l.drop (s.at_+k)) k m=F) (fun _ c _=>4-(intOf c).toNat)
 case atStart=>exact⟨0,0,rfl,rfl,rfl,by omega,by omega,by decide,HF.out⟩
 case round=>
  obtain⟨m,k,rfl,rfl,rfl,hk,G,hm,hb⟩:=hrel;have t:∀p,F=(m,k)→Rdg b l (s.go F.2) S ((wC.iter ⟨(l.drop s.at_).toArray⟩ p).setCell ⟨b,1,none⟩ (.int .i64 ((s.at_:Int)+k)))∧Stp S w S ((wC.iter ⟨(l.drop s.at_).toArray⟩ p).setCell ⟨b,1,none⟩ (.int .i64 ((s.at_:Int)+k))):=fun p hF=>by
   subst hF;have h1:=B.out ⟨(l.drop s.at_).toArray⟩ p;exact⟨⟨cv,mv,h1.turned 1 _ (s.go k) (by simp[RxS.go]) rfl rfl⟩,(Stp.of (Zfg FC.out _ p)).trans (h1.stp 1 _)⟩
  have g:=hid t;clear t;have hp:=Zkr hk;by_cases o:s.at_+k<l.length
  ·have f:k<(l.drop s.at_).length:=by rw[List.length_drop];omega
   have d:k<(ByteArray.mk (l.drop s.at_).toArray).size:=by rw[Zbp];exact f
   have a:(ByteArray.mk (l.drop s.at_).toArray)[k]'d=l[s.at_+k]:=by rw[Zp6];exact List.getElem_drop
   by_cases hd:48≤l[s.at_+k].toNat∧l[s.at_+k].toNat≤57
   ·obtain⟨i,j⟩:=hd;obtain⟨x,hx⟩:∃x,l[s.at_+k]=x:=⟨_,rfl⟩;have u:∀ty,(Instr.next (.pointer (some ⟨wC.heap.size,0,none⟩)) true ty).run Tryz.prog (wC.iter ⟨(l.drop s.at_).toArray⟩ k)=.ok (.tuple #[.bool true,.int .i64 k,.int .i32 x.toNat]) (wC.iter ⟨(l.drop s.at_).toArray⟩ (k+1)):=fun ty=>by
     rw[run_next_ascii wC _ k ty d (by rw[a];omega),a,hx]
    by_cases h3:k=3
    ·subst h3;rw[Zd5 o (fun h=>h.2.2 rfl)]at hb;rw[hx]at i j;have t1:decide ((0:Int)<3)=true:=rfl;have hF:=g.out 4 hb.symm;subst hb;have e:=hid hF;obtain⟨y,A⟩:=rc ⟨(l.drop s.at_).toArray⟩ 4;clear f d a hm hF rc hx;go_wp2;go_ret2;exact⟨rfl,e.out⟩
    ·have C:((k:Int)==3)=false:=by simp;omega
     rw[ZfY o ⟨i,j,h3⟩]at hb;rw[hx]at i j hb;have v:=Zih k;have HX:=hid hb;have HP:=hid v;have E:k≤2:=by omega
     have H:m<1000:=by omega
     clear hb f d a h3 v hx rc;go_wp2;go_roundw
     case rel=>exact⟨m*10+(x.toNat-48),k+1,by go_num,by go_num,rfl,by omega,by omega,by rw[HP.out];omega,HX.out⟩
     case measure=>simp[intOf];omega
   ·rw[Zd5 o (fun h=>hd ⟨h.1,h.2.1⟩)]at hb;obtain⟨r,p,hr,u⟩:∃(r:Int) (p:Nat),(r<48∨(48≤r∧57<r))∧∀ty,(Instr.next (.pointer (some ⟨wC.heap.size,0,none⟩)) true ty).run Tryz.prog (wC.iter ⟨(l.drop s.at_).toArray⟩ k)=.ok (.tuple #[.bool true,.int .i64 k,.int .i32 r]) (wC.iter ⟨(l.drop s.at_).toArray⟩ p):=by
     by_cases ha:l[s.at_+k].toNat<128
     ·exact⟨l[s.at_+k].toNat,k+1,by omega,fun ty=>by rw[run_next_ascii wC _ k ty d (by rw[a];exact ha),a]⟩
     ·have hh:=decode_high (ByteArray.mk (l.drop s.at_).toArray) k d (by rw[a];omega);exact⟨_,_,by omega,fun ty=>run_next_any wC _ k ty d⟩
    have hF:=g.out p hb.symm;subst hb;have e:=hid hF;obtain⟨y,A⟩:=rc ⟨(l.drop s.at_).toArray⟩ p;clear f d a hd hm hF rc;rcases hr with hr|⟨I,J⟩
    all_goals
     go_wp2;go_ret2;exact⟨by simp,e.out⟩
  ·rw[Zff (by omega)]at hb;have u:∀ty,(Instr.next (.pointer (some ⟨wC.heap.size,0,none⟩)) true ty).run Tryz.prog (wC.iter ⟨(l.drop s.at_).toArray⟩ k)=.ok (.tuple #[.bool false]) (wC.iter ⟨(l.drop s.at_).toArray⟩ k):=fun ty=>run_next_end wC _ k ty (by rw[Zbp,List.length_drop];omega);have hF:=g.out k hb.symm;subst hb;have e:=hid hF;obtain⟨y,A⟩:=rc ⟨(l.drop s.at_).toArray⟩ k;clear hm hF rc;go_wp2;go_ret2;exact⟨by simp,e.out⟩
theorem Z3{w:World}{e:TypeId}{size n:Nat}{v:Value}{xs:List Value}(h:w.ownsRow 0 e size v n xs):∀k,v.ownBlock=some k→k<w.heap.size:=by
 intro k hk;rcases h.2 with⟨rfl,_⟩|⟨r,a,b,rfl,_,hr,_⟩
 ·cases hk
 ·injection hk with hk;subst hk;exact lt_heap hr
theorem newAt0(w:World)(A:Obj):(w.alloc A).heap[w.heap.size]? =some A:=by unfold World.alloc;exact Array.getElem?_push_size
theorem Zbv:(Tryz.prog.info? 95).map (fun i=>(i.zero,i.size,i.bytes))=some (some (.agg #[.int .i64 0,.string ByteArray.empty]),2,24):=by kernel_rfl
theorem Zch(l:List (Nat×List UInt8))(k:Nat)(t:List UInt8):mkC (l++[(k,t)])=mkC l++[.int .i64 k,.string ⟨t.toArray⟩]:=by simp[mkC]
def Zf0(S:Nat→Prop)(v:Value):Nat→Prop:=fun k=>S k∨v.ownBlock=some k
section
variable {b:Nat} {l:List UInt8} {s:RxS} {S:Nat→Prop} {cv mv v':Value} {w W0 w3:World}
theorem Br.pushM(h:Br b l s S cv mv w)(f:Fr nob w W0)(hap:Appd 1 mv v' W0 w3){t:List UInt8}
 (hown:w3.ownsRow 0 95 2 v' (s.marks.length+1) (mkC s.marks++[.int .i64 s.at_,.string ⟨t.toArray⟩])):
 (w3.cell? ⟨b,4,none⟩=some mv∧w3.frozen? ⟨b,4,none⟩=false)∧Rdg b l (s.mark t) (Zf0 S v') (w3.setCell ⟨b,4,none⟩ v')∧Stp S w (Zf0 S v') (w3.setCell ⟨b,4,none⟩ v'):=by
 have h0:=h.on f;have a:=hap.fr.heap h0.blk (fun e=>(h.nm b e).1 rfl);have i:=f.size;have hb:=lt_heap h.blk;have g:=ownsRow_fr h0.cl hap.fr (fun k hk e=>h.ne k hk e);have d:=(Fr.refl (fun k=>k=b) w3).setCell (p:=⟨b,4,none⟩) (fun _=>rfl) v';have c:v'.ownBlock≠some b:=fun e=>by
  rcases hap.old b e with h1|h1
  ·exact(h.nm b h1).1 rfl
  ·omega
 refine⟨⟨cell_at a rfl,ZF a 4⟩,⟨cv,v',by have:=Za a 4 v';simpa[RxS.mark]using this,ownsRow_fr g d (fun k hk e=>(h.nc k hk).1 e),?_,fun k hk=>⟨(h.nc k hk).1,.inl (h.nc k hk).2⟩,fun k hk=>⟨fun e=>c (by rw[←e];exact hk),.inr hk⟩,?_,.inl h.me⟩,?_,?_,?_⟩
 ·have:=ownsRow_fr hown d (fun k hk e=>c (by rw[←e];exact hk));unfold OwM;simp only[RxS.mark,List.length_append,List.length_singleton,Zch];exact this
 ·intro k hk e;rcases hap.old k e with h1|h1
  ·exact h.ne k hk h1
  ·have:=Z3 h.cl k hk;omega
 ·exact(f.any.trans (hap.fr.mono (T:=S) fun k _ hk=>(h.nm k hk).2) (fun _ _ x=>x)).setCell (p:=⟨b,4,none⟩) (fun _=>h.me) v'
 ·intro k hk hx;rcases hx with hx|hx
  ·exact hx
  ·rcases hap.old k hx with h1|h1
   ·exact(h.nm k h1).2
   ·omega
 ·intro hl k hk;have hz:(w3.setCell ⟨b,4,none⟩ v').heap.size=w3.heap.size:=by simp[World.setCell]
  rw[hz];rcases hk with hk|hk
  ·have:=hl k hk;have:=hap.fr.size;omega
  ·exact Z3 hown k hk
theorem Br.pushC(h:Br b l s S cv mv w)(f:Fr nob w W0)(hap:Appd 1 cv v' W0 w3){n:Nat}
 (hown:w3.ownsRow 0 3 1 v' (s.closed.length+1) ((s.closed.map fun(n:Nat)=>Value.int .i64 n)++[.int .i64 n])):
 (w3.cell? ⟨b,3,none⟩=some cv∧w3.frozen? ⟨b,3,none⟩=false)∧Rdg b l {s with closed:=s.closed++[n]} (Zf0 S v') (w3.setCell ⟨b,3,none⟩ v')∧Stp S w (Zf0 S v') (w3.setCell ⟨b,3,none⟩ v'):=by
 have h0:=h.on f;have a:=hap.fr.heap h0.blk (fun e=>(h.nc b e).1 rfl);have i:=f.size;have hb:=lt_heap h.blk;have g:=ownsRow_fr h0.ma hap.fr (fun k hk e=>h.ne k e hk);have d:=(Fr.refl (fun k=>k=b) w3).setCell (p:=⟨b,3,none⟩) (fun _=>rfl) v';have c:v'.ownBlock≠some b:=fun e=>by
  rcases hap.old b e with h1|h1
  ·exact(h.nc b h1).1 rfl
  ·omega
 refine⟨⟨cell_at a rfl,ZF a 3⟩,⟨v',mv,by have:=Za a 3 v';simpa using this,?_,ownsRow_fr g d (fun k hk e=>(h.nm k hk).1 e),fun k hk=>⟨fun e=>c (by rw[←e];exact hk),.inr hk⟩,fun k hk=>⟨(h.nm k hk).1,.inl (h.nm k hk).2⟩,?_,.inl h.me⟩,?_,?_,?_⟩
 ·have:=ownsRow_fr hown d (fun k hk e=>c (by rw[←e];exact hk));unfold OwC;simp only[List.length_append,List.length_singleton,List.map_append,List.map_cons,List.map_nil];exact this
 ·intro k hk e;rcases hap.old k hk with h1|h1
  ·exact h.ne k h1 e
  ·have:=Z3 h.ma k e;omega
 ·exact(f.any.trans (hap.fr.mono (T:=S) fun k _ hk=>(h.nc k hk).2) (fun _ _ x=>x)).setCell (p:=⟨b,3,none⟩) (fun _=>h.me) v'
 ·intro k hk hx;rcases hx with hx|hx
  ·exact hx
  ·rcases hap.old k hx with h1|h1
   ·exact(h.nc k h1).2
   ·omega
 ·intro hl k hk;have hz:(w3.setCell ⟨b,3,none⟩ v').heap.size=w3.heap.size:=by simp[World.setCell]
  rw[hz];rcases hk with hk|hk
  ·have:=hl k hk;have:=hap.fr.size;omega
  ·exact Z3 hown k hk
end
theorem Zdg{w:World}{g k:Nat}{t:List UInt8}{T:TypeId}{fr:Nat×Nat}(h:w.heap[g]? =some (.cells #[.int .i64 k,.string ⟨t.toArray⟩] T fr)):
 ∀j u,([.int .i64 k,.string ⟨t.toArray⟩]:List Value)[j]? =some u→w.cell? ((⟨g,0,none⟩:Addr).add j)=some u:=by
 intro j u hj
 match j,hj with
 |0,hj=>simp at hj;subst hj;exact cell_at h rfl
 |1,hj=>simp at hj;subst hj;exact cell_at h rfl
theorem Zf1{k:Nat}{t:List UInt8}:∀u∈([.int .i64 k,.string ⟨t.toArray⟩]:List Value),u.oneCell'=true:=by
 intro u hu;simp only[List.mem_cons,List.not_mem_nil,or_false]at hu;rcases hu with rfl|rfl<;>rfl
theorem br_mark(b:Nat)(l t:List UInt8)(s:RxS)(S:Nat→Prop)(w:World)(hm:s.marks.length≤100000)(h:Rdg b l s S w):
 Calls Tryz.prog 54 #[.pointer (some ⟨b,0,none⟩),.string ⟨t.toArray⟩] w fun x w'=>x=.returned (.tuple #[])∧∃S',Rdg b l (s.mark t) S' w'∧Stp S w S' w':=by
 obtain⟨cv,mv,h⟩:=h;obtain⟨a,c,rfl⟩:=Zb h.ma;have rb:=Zd h.blk;obtain⟨i0,hi,f,g,i⟩:=info_parts Zbv;have HB:=hid h;clear h;go_enter Tryz.func54,Tryz.ntmps54;go_wp2_with fail
 go_region_law (refine step_append_g rfl (.tmp 8) (.tmp 15) 25 rfl 95 i0 (.agg #[.int .i64 0,.string ByteArray.empty]) 2 24 Tryz.underlying25 hi f g i rfl (by decide) (.slice a s.marks.length c) s.marks.length (mkC s.marks) (by rfl) (by first|exact ownsRow_fr HB.out.ma (((Fr.refl nob w).alloc _).drew) (fun _ _ x=>x)|exact ownsRow_fr HB.out.ma (((Fr.refl nob w).drew).alloc _) (fun _ _ x=>x)) ⟨w.heap.size,0,none⟩ 1 1 [.int .i64 s.at_,.string ⟨t.toArray⟩] (by rfl) rfl (by first|exact Zdg (newAt0 w _)|exact Zdg (newAt0 w.drew _)) Zf1 (by unfold maxLen;omega) (by omega) ?_;intro v' w3 d e;obtain⟨av,j,rfl⟩:=Zb d;obtain⟨⟨pc,pf⟩,q1,q2⟩:=(by first|exact HB.out.pushM (((Fr.refl nob w).alloc _).drew) e d|exact HB.out.pushM (((Fr.refl nob w).drew).alloc _) e d);have HQ:=hid q1;have HR:=hid q2;clear d e q1 q2)
 all_goals
  go_wp2
  go_end0
  exact⟨rfl,_,HQ.out,HR.out⟩
theorem Zf2{l:List UInt8}{k m:Nat}(h:ZaQ (l.drop k) 0 0=(m,0)):Zfw l k=none:=by
 unfold Zfw;rw[h];rfl
theorem Zii{l:List UInt8}{k m c:Nat}(h:ZaQ (l.drop k) 0 0=(m,c))(hc:c≠0)(ha:ahd l (k+c) [44]=false):
 Zfw l k=if ahd l (k+c) [92,125]=false∨255<m then none else some ((m:Int),(m:Int),k+c+2):=by
 unfold Zfw;rw[h];simp only[hc,if_false,ha,Bool.false_eq_true];by_cases h1:ahd l (k+c) [92,125]=false∨255<m
 ·rw[if_pos h1,if_pos (by rcases h1 with h1|h1;exact .inl h1;exact .inr (.inl h1))]
 ·rw[if_neg h1,if_neg (by intro h2;rcases h2 with h2|h2|h2|h2;exact h1 (.inl h2);exact h1 (.inr h2);exact h1 (.inr (by omega));omega)]
theorem itvB_open{l:List UInt8}{k m c x:Nat}(h:ZaQ (l.drop k) 0 0=(m,c))(hc:c≠0)(ha:ahd l (k+c) [44]=true)(h2:ZaQ (l.drop (k+c+1)) 0 0=(x,0)):
 Zfw l k=if ahd l (k+c+1) [92,125]=false∨255<m then none else some ((m:Int), -1,k+c+1+2):=by
 unfold Zfw;rw[h];simp only[hc,if_false,ha,if_true,h2,Nat.add_zero];by_cases h1:ahd l (k+c+1) [92,125]=false∨255<m
 ·rw[if_pos h1,if_pos (by rcases h1 with h1|h1;exact .inl h1;exact .inr (.inl h1))]
 ·rw[if_neg h1,if_neg (by intro h2;rcases h2 with h2|h2|h2|h2;exact h1 (.inl h2);exact h1 (.inr h2);omega;omega)]
theorem itvB_two{l:List UInt8}{k m c x d:Nat}(h:ZaQ (l.drop k) 0 0=(m,c))(hc:c≠0)(ha:ahd l (k+c) [44]=true)(h2:ZaQ (l.drop (k+c+1)) 0 0=(x,d))(hd:d≠0):
 Zfw l k=if ahd l (k+c+1+d) [92,125]=false∨255<m∨255<x∨x<m then none else some ((m:Int),(x:Int),k+c+1+d+2):=by
 unfold Zfw;rw[h];simp only[hc,if_false,ha,if_true,h2,hd];by_cases h1:ahd l (k+c+1+d) [92,125]=false∨255<m∨255<x∨x<m
 ·rw[if_pos h1,if_pos (by rcases h1 with h1|h1|h1|h1;exact .inl h1;exact .inr (.inl h1);exact .inr (.inr (.inl (by omega)));exact .inr (.inr (.inr ⟨by omega,by omega⟩)))]
 ·rw[if_neg h1,if_neg (by intro h2;rcases h2 with h2|h2|h2|h2;exact h1 (.inl h2);exact h1 (.inr (.inl h2));exact h1 (.inr (.inr (.inl (by omega))));exact h1 (.inr (.inr (.inr (by omega)))))]
theorem ahd_le{l t:List UInt8}{k:Nat}(h:ahd l k t=true)(ht:1≤t.length):k+t.length≤l.length:=by
 unfold ahd at h;rw[List.isPrefixOf_iff_prefix]at h;have:=h.length_le;rw[List.length_drop]at this;omega
theorem Zdh(l:List UInt8)(k:Nat)(h:k≤l.length):(ZaQ (l.drop k) 0 0).2≤3∧(ZaQ (l.drop k) 0 0).1<1000∧k+(ZaQ (l.drop k) 0 0).2≤l.length:=by
 obtain⟨h1,h2,_,h4⟩:=Zkq (l.drop k) 0 0 (by omega) (by decide);rw[List.length_drop]at h4;refine⟨h1,Nat.lt_of_lt_of_le h2 (by have:=Zkr h1;unfold p10 at this;exact this),by omega⟩
def Zpv(b:Nat)(l:List UInt8)(s:RxS)(S:Nat→Prop)(w:World)(p:Nat):Option (Int×Int×Nat)→Ending→World→Prop
 |none,x,w'=>x=.panicked (Zkp 7 p)∧Stp S w S w'
 |some (m,n,k),x,w'=>x=.returned (.tuple #[.int .i64 m,.int .i64 n])∧Rdg b l (s.to k) S w'∧Stp S w S w'
theorem Zhh(b:Nat)(l:List UInt8)(s:RxS)(S:Nat→Prop)(w:World)(p:Nat)(hl:l.length≤100000)(ha:s.at_≤l.length)(h:Rdg b l s S w):
 Calls Tryz.prog 112 #[.pointer (some ⟨b,0,none⟩),.int .i64 (p:Nat)] w fun x w'=>Zpv b l s S w p (Zfw l s.at_) x w':=by
 obtain⟨t,u,v⟩:=Zdh l s.at_ ha;have hN:=ZfZ b l s S w hl ha h;clear h;obtain⟨m,c,hM⟩:∃m c,ZaQ (l.drop s.at_) 0 0=(m,c):=⟨_,_,rfl⟩;rw[hM]at hN t u v;simp only at hN t u v;obtain⟨I,hI⟩:∃I,Zfw l s.at_=I:=⟨_,rfl⟩;rw[hI];have HM:=hid hM;have HI:=hid hI;clear hM hI;go_enter Tryz.func112,Tryz.ntmps112;go_wp2_with fail;refine hN.mono ?_;rintro e w1 ⟨rfl,r1,t1⟩;have R1:=hid r1;have T1:=hid t1;clear r1 t1 hN;by_cases hc:c=0
 ·subst hc;have hI:=HI.out;rw[Zf2 HM.out]at hI;subst hI;go_wp2_with(go_at_call 82;refine(br_fail 7 p _).mono ?_;rintro e w' ⟨rfl,rfl⟩);exact⟨rfl,rfl,T1.out⟩
 ·have A:decide (0<c)=true:=by simp;omega
  have hT:=ZbN b l [44] (s.go c) S w1 hl (by decide) (by show s.at_+c≤_;omega) R1.out;rw[show(s.go c).at_=s.at_+c from rfl]at hT;have HC:=hid hc;have D:¬(m:Int)<m:=by omega
  have C:(0:Int)≤m:=by omega
  clear hc;cases hA:ahd l (s.at_+c) [44]with
  |false=>
   have hI:=HI.out;rw[Zii HM.out HC.out hA]at hI;rw[hA]at hT;simp only[Bool.false_eq_true,if_false]at hT;have q:=hid hT;clear hT hA;go_wp2_with(go_at_call 80;(with_reducible refine(q.out).mono ?_);rintro e w2 ⟨rfl,r2,t2⟩;have R2:=hid r2;have T2:=hid t2;clear r2 t2);have j:=ZbN b l [92,125] (s.go c) S w2 hl (by decide) (by show s.at_+c≤_;omega) R2.out;rw[show(s.go c).at_=s.at_+c from rfl]at j;obtain⟨E,hE⟩:∃E,ahd l (s.at_+c) [92,125]=E:=⟨_,rfl⟩;rw[hE]at j hI;clear hE;by_cases a:E=false∨255<m
   ·rw[if_pos a]at hI;subst hI;have k:=hid j;clear j;have hb:E=false∨(E=true∧255<m):=by cases E<;>simp at a⊢<;>omega
    clear a;rcases hb with rfl|⟨rfl,g⟩
    all_goals
     go_wp2_with(first|(go_at_call 80;(with_reducible refine(k.out).mono ?_);rintro e w3 ⟨rfl,r3,t3⟩;have R3:=hid r3;have T3:=hid t3;clear r3 t3)|(go_at_call 82;refine(br_fail 7 p _).mono ?_;rintro e w' ⟨rfl,rfl⟩));exact⟨rfl,rfl,(T1.out.trans T2.out).trans T3.out⟩
   ·rw[if_neg a]at hI;subst hI;obtain rfl:E=true:=by cases E with|true=>rfl|false=>exact absurd (.inl rfl) a
    have g:¬255<m:=fun h=>a (.inr h);simp only[if_true]at j;have k:=hid j;clear j a;go_wp2_with(go_at_call 80;(with_reducible refine(k.out).mono ?_);rintro e w3 ⟨rfl,r3,t3⟩;have R3:=hid r3;have T3:=hid t3;clear r3 t3);go_ret2;exact⟨rfl,R3.out,(T1.out.trans T2.out).trans T3.out⟩
  |true=>
   have o:=ahd_le hA (by decide);simp only[List.length_singleton]at o;rw[hA]at hT;simp only[if_true]at hT;have HA:=hid hA;have q:=hid hT;clear hT hA;obtain⟨k1,k2,k3⟩:=Zdh l (s.at_+c+1) o;obtain⟨x,d,hX⟩:∃x d,ZaQ (l.drop (s.at_+c+1)) 0 0=(x,d):=⟨_,_,rfl⟩;rw[hX]at k1 k2 k3;simp only at k1 k2 k3;have HX:=hid hX;clear hX;have F:(0:Int)≤x:=by omega
   go_wp2_with(go_at_call 80;(with_reducible refine(q.out).mono ?_);rintro e w2 ⟨rfl,r2,t2⟩;have R2:=hid r2;have T2:=hid t2;clear r2 t2);have r:=ZfZ b l ((s.go c).go 1) S w2 hl (by show s.at_+c+1≤_;omega) R2.out;rw[show((s.go c).go 1).at_=s.at_+c+1 from rfl,HX.out]at r;have k:=hid r;clear r;by_cases hd:d=0
   ·subst hd;have hI:=HI.out;go_wp2_with(go_at_call 136;(with_reducible refine(k.out).mono ?_);rintro e w3 ⟨rfl,r3,t3⟩;have R3:=hid r3;have T3:=hid t3;clear r3 t3);rw[itvB_open HM.out HC.out HA.out HX.out]at hI;have f:=ZbN b l [92,125] (((s.go c).go 1).go 0) S w3 hl (by decide) (by show s.at_+c+1+0≤_;omega) R3.out;rw[show(((s.go c).go 1).go 0).at_=s.at_+c+1 from rfl]at f;obtain⟨E,hE⟩:∃E,ahd l (s.at_+c+1) [92,125]=E:=⟨_,rfl⟩;rw[hE]at f hI;clear hE;by_cases a:E=false∨255<m
    ·rw[if_pos a]at hI;subst hI;have i:=hid f;clear f;have hb:E=false∨(E=true∧255<m):=by cases E<;>simp at a⊢<;>omega
     clear a;rcases hb with rfl|⟨rfl,g⟩
     all_goals
      go_wp2_with(first|(go_at_call 80;(with_reducible refine(i.out).mono ?_);rintro e w4 ⟨rfl,r4,t4⟩;have R4:=hid r4;have T4:=hid t4;clear r4 t4)|(go_at_call 82;refine(br_fail 7 p _).mono ?_;rintro e w' ⟨rfl,rfl⟩));exact⟨rfl,rfl,((T1.out.trans T2.out).trans T3.out).trans T4.out⟩
    ·rw[if_neg a]at hI;subst hI;obtain rfl:E=true:=by cases E with|true=>rfl|false=>exact absurd (.inl rfl) a
     have g:¬255<m:=fun h=>a (.inr h);simp only[if_true]at f;have i:=hid f;clear f a;go_wp2_with(go_at_call 80;(with_reducible refine(i.out).mono ?_);rintro e w4 ⟨rfl,r4,t4⟩;have R4:=hid r4;have T4:=hid t4;clear r4 t4);go_ret2;exact⟨rfl,R4.out,((T1.out.trans T2.out).trans T3.out).trans T4.out⟩
   ·have hI:=HI.out;rw[itvB_two HM.out HC.out HA.out HX.out hd]at hI;have B:decide (0<d)=true:=by simp;omega
    go_wp2_with(go_at_call 136;(with_reducible refine(k.out).mono ?_);rintro e w3 ⟨rfl,r3,t3⟩;have R3:=hid r3;have T3:=hid t3;clear r3 t3);have f:=ZbN b l [92,125] (((s.go c).go 1).go d) S w3 hl (by decide) (by show s.at_+c+1+d≤_;omega) R3.out;rw[show(((s.go c).go 1).go d).at_=s.at_+c+1+d from rfl]at f;clear hd;obtain⟨E,hE⟩:∃E,ahd l (s.at_+c+1+d) [92,125]=E:=⟨_,rfl⟩;rw[hE]at f hI;clear hE;by_cases a:E=false∨255<m∨255<x∨x<m
    ·rw[if_pos a]at hI;subst hI;have i:=hid f;clear f;have hb:E=false∨(E=true∧255<m)∨(E=true∧¬255<m∧255<x)∨(E=true∧¬255<m∧¬255<x∧(x:Int)<m):=by cases E<;>simp at a⊢<;>omega
     clear a;rcases hb with rfl|⟨rfl,g⟩|⟨rfl,g,n⟩|⟨rfl,g,n,y⟩
     all_goals
      go_wp2_with(first|(go_at_call 80;(with_reducible refine(i.out).mono ?_);rintro e w4 ⟨rfl,r4,t4⟩;have R4:=hid r4;have T4:=hid t4;clear r4 t4)|(go_at_call 82;refine(br_fail 7 p _).mono ?_;rintro e w' ⟨rfl,rfl⟩));exact⟨rfl,rfl,((T1.out.trans T2.out).trans T3.out).trans T4.out⟩
    ·rw[if_neg a]at hI;subst hI;obtain rfl:E=true:=by cases E with|true=>rfl|false=>exact absurd (.inl rfl) a
     have g:¬255<m:=fun h=>a (.inr (.inl h));have n:¬255<x:=fun h=>a (.inr (.inr (.inl h)));have y:¬(x:Int)<m:=fun h=>a (.inr (.inr (.inr (by omega))));simp only[if_true]at f;have i:=hid f;clear f a;go_wp2_with(go_at_call 80;(with_reducible refine(i.out).mono ?_);rintro e w4 ⟨rfl,r4,t4⟩;have R4:=hid r4;have T4:=hid t4;clear r4 t4);go_ret2;exact⟨rfl,R4.out,((T1.out.trans T2.out).trans T3.out).trans T4.out⟩
def rV(l:List UInt8)(ere:Bool)(s:RxS)(ca:Option Addr)(cc:Nat)(ma:Option Addr)(mc:Nat)(e p:Int):Value:=
 .agg #[.string ⟨l.toArray⟩,.bool ere,.int .i64 s.at_,.int .i64 s.opened,.slice ca s.closed.length cc,.slice ma s.marks.length mc,.int .i64 e,.int .i64 p]
abbrev rC(l:List UInt8)(ere:Bool)(s:RxS)(ca:Option Addr)(cc:Nat)(ma:Option Addr)(mc:Nat)(e p:Int):Array Value:=
 #[.string ⟨l.toArray⟩,.bool ere,.int .i64 s.at_,.int .i64 s.opened,.slice ca s.closed.length cc,.slice ma s.marks.length mc,.int .i64 e,.int .i64 p]
section
variable (l:List UInt8) (ere:Bool) (s:RxS) (ca:Option Addr) (cc:Nat) (ma:Option Addr) (mc:Nat) (e p:Int)
theorem Zyf(k:Nat)(w:World)(hl:l.length≤100000)(hk:k≤200000):
 Calls Tryz.prog 91 #[rV l ere s ca cc ma mc e p,.int .i64 k] w fun x w'=>x=.returned (.string ⟨(sgn l k).toArray⟩)∧Fr nob w w':=by
 unfold rV;by_cases h:k<l.length
 ·have h1:¬(l.length:Int)≤k:=by omega
  have f:(k:Int)<l.length:=by omega
  obtain⟨x,hx⟩:∃x,l[k]=x:=⟨_,rfl⟩;by_cases a:x=92
  ·have t1:((x.toNat:Int)==92)=true:=Zcy (b:=92) a;by_cases h2:k+1<l.length
   ·have d:(k:Int)+1<l.length:=by omega
    have c:=Zaf (P:=Tryz.prog) l (lo:=(k:Int)) (hi:=(k:Int)+2) Tryz.underlying9 (by omega) (by omega) (by omega);have he:List.take (((k:Int)+2).toNat-(k:Int).toNat) (List.drop (k:Int).toNat l)=sgn l k:=by
     rw[Zzy h2 (by rw[hx,a]),show(k:Int).toNat=k from by omega,show((k:Int)+2).toNat-k=2 from by omega,List.drop_eq_getElem_cons h,List.drop_eq_getElem_cons h2,hx,a];rfl
    rw[he]at c;clear he a;go_enter Tryz.func91,Tryz.ntmps91;go_wp2;go_ret;exact⟨rfl,(Fr.refl _ _).alloc _⟩
   ·have d:¬(k:Int)+1<l.length:=by omega
    have c:=ZbH (P:=Tryz.prog) l (lo:=(k:Int)) (hi:=(k:Int)+1) Tryz.underlying9 h rfl rfl;have he:=Zy3 h (by omega);rw[←he]at c;clear he a;go_enter Tryz.func91,Tryz.ntmps91;go_wp2;go_ret;exact⟨rfl,(Fr.refl _ _).alloc _⟩
  ·have t1:((x.toNat:Int)==92)=false:=Zn (b:=92) a;have c:=ZbH (P:=Tryz.prog) l (lo:=(k:Int)) (hi:=(k:Int)+1) Tryz.underlying9 h rfl rfl;have he:=Zzz h (by rw[hx];exact a);rw[←he]at c;clear he a;go_enter Tryz.func91,Tryz.ntmps91;go_wp2;go_ret;exact⟨rfl,(Fr.refl _ _).alloc _⟩
 ·have h1:(l.length:Int)≤k:=by omega
  rw[Zkf (by omega)];go_enter Tryz.func91,Tryz.ntmps91;go_wp2;go_ret;exact⟨rfl,(Fr.refl _ _).alloc _⟩
theorem Zzq(b:UInt8)(w:World):
 Calls Tryz.prog 92 #[rV l ere s ca cc ma mc e p,.string ⟨[b].toArray⟩] w fun x w'=>x=.returned (.string ⟨(opB ere b).toArray⟩)∧Fr nob w w':=by
 unfold rV;cases ere
 all_goals
  go_enter Tryz.func92,Tryz.ntmps92;go_wp2;go_ret;exact⟨rfl,(Fr.refl _ _).alloc _⟩
theorem ZyN{fn:Func}{t:Tmp}(h:fn.results= #[.cell t 123]){tmps:Array Value}{r:Nat}(ht:tmps.getD t undef=.pointer (some ⟨r,0,none⟩)){W:World}
 (hb:W.heap[r]? =some (.cells (rC l ere s ca cc ma mc e p) 123 (0,0))):(results fn tmps).run Tryz.prog W=.ok (rV l ere s ca cc ma mc e p) W:=by
 have c0:=cell_at (j:=0) (v:=.string ⟨l.toArray⟩) hb rfl;have c1:=cell_at (j:=1) (v:=.bool ere) hb rfl;have c2:=cell_at (j:=2) (v:=.int .i64 s.at_) hb rfl;have c3:=cell_at (j:=3) (v:=.int .i64 s.opened) hb rfl;have c4:=cell_at (j:=4) (v:=.slice ca s.closed.length cc) hb rfl;have c5:=cell_at (j:=5) (v:=.slice ma s.marks.length mc) hb rfl;have c6:=cell_at (j:=6) (v:=.int .i64 e) hb rfl;have c7:=cell_at (j:=7) (v:=.int .i64 p) hb rfl;have a:tmps[t]?.getD undef=.pointer (some ⟨r,0,none⟩):=by rw[←ht];simp
 simp only[results,h];simp[a,go_sem,c0,c1,c2,c3,c4,c5,c6,c7,rV]
theorem ZAG(z q:Int)(w:World):
 Calls Tryz.prog 119 #[rV l ere s ca cc ma mc 0 0,.int .i64 z,.int .i64 q] w fun x w'=>x=.returned (rV l ere s ca cc ma mc z q)∧Fr nob w w':=by
 unfold rV;go_enter Tryz.func119,Tryz.ntmps119;go_wp2;exact bodyPost_ret (ZyN l ere s ca cc ma mc z q rfl rfl (heap_alloc_new' _ _ _ (by simp))) rfl ⟨rfl,((Fr.refl _ _).alloc _).alloc _⟩
theorem ZzU(k:Nat)(w:World)(hl:l.length≤100000)(hk:k≤200000):
 Calls Tryz.prog 171 #[.string ⟨l.toArray⟩,.int .i64 k] w fun x w'=>x=.returned (.tuple #[.int .i64 (Zp9 l k).1,.int .i64 (Zp9 l k).2])∧w=w':=by
 unfold Zp9;obtain⟨F,hF⟩:∃F,ZaQ (l.drop k) 0 0=F:=⟨_,rfl⟩;rw[hF];obtain⟨D,hD⟩:∃D,(if 255<F.1 then((0,0):Nat×Nat)else F)=D:=⟨_,rfl⟩;rw[hD];have HF:=hid hF;have HD:=hid hD;clear hF hD;go_enter Tryz.func171,Tryz.ntmps171;go_wp2_with fail
 go_loopw [6,7] (fun v6 v7 wr=>∃n c:Nat,v6=.int .i64 n∧v7=.int .i64 c∧c≤3∧n<p10 c∧ZaQ (l.drop (k+c)) c n=F∧w=wr) (fun _ c _=>4-(intOf c).toNat)
 case atStart=>exact⟨0,0,rfl,rfl,by omega,by decide,HF.out,rfl⟩
 case round=>
  obtain⟨n,c,rfl,rfl,hc,hn,hb,rfl⟩:=hrel;have hp:=Zkr hc;have i:F=(n,c)→∀(b:Bool),decide ((255:Int)<(n:Int))=b→(if 255<F.1 then((0,0):Nat×Nat)else F)=(if b then(0,0)else(n,c)):=fun e b hb=>by
   subst e;cases b with
   |true=>rw[if_pos (by have:=of_decide_eq_true hb;omega)];rfl
   |false=>rw[if_neg (by have:=of_decide_eq_false hb;omega)];rfl
  have a:=hid i;have d:=hid HF;clear i HF;obtain⟨bb,f⟩:∃bb,decide ((255:Int)<(n:Int))=bb:=⟨_,rfl⟩;by_cases g:k+c<l.length
  ·have q:(k:Int)+c<l.length:=by omega
   obtain⟨x,hx⟩:∃x,l[k+c]=x:=⟨_,rfl⟩;by_cases h3:c<3
   ·have s:(c:Int)<3:=by omega
    by_cases j:48≤x.toNat
    ·have m:(48:Int)≤x.toNat:=by omega
     by_cases o:x.toNat≤57
     ·have p:(x.toNat:Int)≤57:=by omega
      rw[ZfY g (by rw[hx];exact⟨j,o,by omega⟩),hx]at hb;have r:=Zih c;have u:IntKind.u8.wrap ((x.toNat:Int)-48)=x.toNat-48:=IntWalk.u8_in _ (by omega);have HX:=hid hb;have HP:=hid r;have t:(n:Int)<1000:=by omega
      clear hb r a d;go_wp2;go_roundw
      case rel=>exact⟨n*10+(x.toNat-48),c+1,by go_num,by go_num,by omega,by rw[HP.out];omega,by have:=HX.out;rwa[show k+(c+1)=k+c+1 from by omega],by first|rfl|trivial⟩
      case measure=>simp[intOf];omega
     ·have p:¬(x.toNat:Int)≤57:=by omega
      rw[Zd5 g (by rw[hx];exact fun h=>o h.2.1)]at hb;obtain rfl:D=_:=HD.out.symm.trans (a.out hb.symm bb f);cases bb
      all_goals
       clear a d hb HD;go_wp2;go_ret2;exact⟨rfl,rfl⟩
    ·have m:¬(48:Int)≤x.toNat:=by omega
     rw[Zd5 g (by rw[hx];exact fun h=>j h.1)]at hb;obtain rfl:D=_:=HD.out.symm.trans (a.out hb.symm bb f);cases bb
     all_goals
      clear a d hb HD;go_wp2;go_ret2;exact⟨rfl,rfl⟩
   ·have s:¬(c:Int)<3:=by omega
    rw[Zd5 g (fun h=>h.2.2 (by omega))]at hb;obtain rfl:D=_:=HD.out.symm.trans (a.out hb.symm bb f);cases bb
    all_goals
     clear a d hb HD;go_wp2;go_ret2;exact⟨rfl,rfl⟩
  ·have q:¬(k:Int)+c<l.length:=by omega
   rw[Zff (by omega)]at hb;obtain rfl:D=_:=HD.out.symm.trans (a.out hb.symm bb f);cases bb
   all_goals
    clear a d hb HD;go_wp2;go_ret2;exact⟨rfl,rfl⟩
end
def ZAv:Option (Int×Int×Nat)→Value
 |none=>.tuple #[.int .i64 0,.int .i64 0,.int .i64 0,.bool false]
 |some (m,n,j)=>.tuple #[.int .i64 m,.int .i64 n,.int .i64 (j:Nat),.bool true]
theorem ZzF(ere:Bool)(b:UInt8):1≤(opB ere b).length∧(opB ere b).length≤2:=by cases ere<;>simp[opB]
theorem ZyC{l t:List UInt8}{k:Nat}(h:k+t.length≤l.length):ahd l k t=decide ((l.drop k).take t.length=t):=by
 unfold ahd;rw[←ZdX (by rw[List.length_drop];omega)];by_cases e:(l.drop k).take t.length=t
 ·rw[e];simp
 ·rw[decide_eq_false e];simpa using e
theorem ZyD{l t:List UInt8}{k:Nat}(h:l.length<k+t.length)(ht:1≤t.length):ahd l k t=false:=by
 cases ha:ahd l k t with
 |false=>rfl
 |true=>have:=ahd_le ha ht;omega
theorem ZzG{l:List UInt8}{ere:Bool}{k m:Nat}(h:Zp9 l k=(m,0)):ZlJ l ere k=none:=by unfold ZlJ;rw[h];rfl
theorem ZzV{l:List UInt8}{ere:Bool}{k m c:Nat}(h:Zp9 l k=(m,c))(hc:c≠0)(ha:ahd l (k+c) [44]=false):
 ZlJ l ere k=if ahd l (k+c) (opB ere 125)=false∨(0≤(m:Int)∧(m:Int)<m)then none else some ((m:Int),(m:Int),k+c+(opB ere 125).length):=by
 unfold ZlJ;rw[h];simp only[hc,if_false,ha,Bool.false_eq_true]
theorem ZzH{l:List UInt8}{ere:Bool}{k m c x:Nat}(h:Zp9 l k=(m,c))(hc:c≠0)(ha:ahd l (k+c) [44]=true)(h2:Zp9 l (k+c+1)=(x,0)):
 ZlJ l ere k=if ahd l (k+c+1) (opB ere 125)=false∨(0≤(-1:Int)∧(-1:Int)<m)then none else some ((m:Int), -1,k+c+1+(opB ere 125).length):=by
 unfold ZlJ;rw[h];simp only[hc,if_false,ha,if_true,h2,Nat.lt_irrefl,Nat.add_zero]
theorem ZzW{l:List UInt8}{ere:Bool}{k m c x d:Nat}(h:Zp9 l k=(m,c))(hc:c≠0)(ha:ahd l (k+c) [44]=true)(h2:Zp9 l (k+c+1)=(x,d))(hd:0<d):
 ZlJ l ere k=if ahd l (k+c+1+d) (opB ere 125)=false∨(0≤(x:Int)∧(x:Int)<m)then none else some ((m:Int),(x:Int),k+c+1+d+(opB ere 125).length):=by
 unfold ZlJ;rw[h];simp only[hc,if_false,ha,if_true,h2,hd]
theorem ZzI(l:List UInt8)(k:Nat)(h:k≤l.length):(Zp9 l k).1≤255∧(Zp9 l k).2≤3∧k+(Zp9 l k).2≤l.length:=by
 have hb:=Zdh l k h;unfold Zp9;split
 ·exact⟨by omega,by omega,h⟩
 ·exact⟨by omega,hb.1,hb.2.2⟩
theorem Zzl(l:List UInt8)(ere:Bool)(s:RxS)(ca:Option Addr)(cc:Nat)(ma:Option Addr)(mc:Nat)(e p:Int)(k:Nat)(w:World)(hl:l.length≤100000)(hk:k≤l.length):
 Calls Tryz.prog 148 #[rV l ere s ca cc ma mc e p,.int .i64 k] w fun x w'=>x=.returned (ZAv (ZlJ l ere k))∧Fr nob w w':=by
 obtain⟨D,hD⟩:∃D,ZlJ l ere k=D:=⟨_,rfl⟩;rw[hD];have HN:=hid (fun(j:Nat) (w':World) (hj:j≤200000)=>ZzU l j w' hl hj);have a:=hid (fun(w':World)=>Zzq l ere s ca cc ma mc e p 125 w');obtain⟨u,E⟩:=ZzF ere 125;have H:∀(j:Nat),ZlJ l ere k=D→D=D:=fun _ _=>rfl;clear H;obtain⟨C,hC⟩:∃C,opB ere 125=C:=⟨_,rfl⟩;obtain⟨m,c,hM⟩:∃m c,Zp9 l k=(m,c):=⟨_,_,rfl⟩;obtain⟨b1,b2,b3⟩:=ZzI l k hk;rw[hM]at b1 b2 b3;simp only at b1 b2 b3;have hN:=HN.out k (w.alloc (.cells (rC l ere s ca cc ma mc e p) 123)) (by omega);rw[hM]at hN;simp only at hN;have g:=hid hN;clear hN;rw[hC]at a u E;unfold rV at a⊢;by_cases h0:c=0
 ·subst h0;rw[ZzG hM]at hD;subst hD;clear hM hC HN a;go_enter Tryz.func148,Tryz.ntmps148;go_wp2_with fail;refine g.out.mono ?_;rintro e w1 ⟨rfl,rfl⟩;go_wp2;(try simp only[Exit.inBlock,Exit.then]);exact bodyPost_ret (results_tmp4 rfl _ _ _) rfl ⟨rfl,(Fr.refl _ _).alloc _⟩
 ·have J:((c:Int)==0)=false:=by simp only[beq_eq_false_iff_ne,ne_eq];omega
  have K:¬(c:Int)=0:=by omega
  cases ha:ahd l (k+c) [44]with
  |false=>
   rw[ZzV hM h0 ha,hC]at hD;have v:l.length≤k+c∨∃h:k+c<l.length,l[k+c]≠44:=by
    by_cases h:k+c<l.length
    ·refine .inr ⟨h,fun e=> ?_⟩;unfold ahd at ha;rw[List.drop_eq_getElem_cons h,e]at ha;simp[List.isPrefixOf]at ha
    ·exact .inl (by omega)
   clear ha hM;rcases v with v|⟨v,y⟩
   ·have q1:¬(k:Int)+c<l.length:=by omega
    have i:l.length<k+c+C.length:=by omega
    have he:ahd l (k+c) C=false:=ZyD i u;rw[if_pos (.inl he)]at hD;subst hD;have q2:(l.length:Int)<(k:Int)+c+C.length:=by omega
    clear HN he;have RR:=hid (rule8 (newAt0 w (.cells (rC l ere s ca cc ma mc e p) 123)));go_enter Tryz.func148,Tryz.ntmps148;go_wp2_with fail;refine g.out.mono ?_;rintro e w1 ⟨rfl,rfl⟩;go_wp2_with fail;refine(a.out _).mono ?_;rintro e w2 ⟨rfl,f2⟩;have rr:=RR.out w2 f2;have F2:=hid (((Fr.refl nob w).alloc _).trans' f2);clear f2;go_wp2;(try simp only[Exit.inBlock,Exit.then]);exact bodyPost_ret (results_tmp4 rfl _ _ _) rfl ⟨rfl,F2.out⟩
   ·have q1:(k:Int)+c<l.length:=by omega
    obtain⟨x0,I⟩:∃x0,l[k+c]=x0:=⟨_,rfl⟩;rw[I]at y;have t1:((x0.toNat:Int)==44)=false:=Zn (b:=44) y;clear y;by_cases i:l.length<k+c+C.length
    ·have he:ahd l (k+c) C=false:=ZyD i u;rw[if_pos (.inl he)]at hD;subst hD;have q2:(l.length:Int)<(k:Int)+c+C.length:=by omega
     clear HN he;have RR:=hid (rule8 (newAt0 w (.cells (rC l ere s ca cc ma mc e p) 123)));go_enter Tryz.func148,Tryz.ntmps148;go_wp2_with fail;refine g.out.mono ?_;rintro e w1 ⟨rfl,rfl⟩;go_wp2_with fail;refine(a.out _).mono ?_;rintro e w2 ⟨rfl,f2⟩;have rr:=RR.out w2 f2;have F2:=hid (((Fr.refl nob w).alloc _).trans' f2);clear f2;go_wp2;(try simp only[Exit.inBlock,Exit.then]);exact bodyPost_ret (results_tmp4 rfl _ _ _) rfl ⟨rfl,F2.out⟩
    ·have q2:¬(l.length:Int)<(k:Int)+c+C.length:=by omega
     have q:=Zaf (P:=Tryz.prog) l (lo:=(k:Int)+c) (hi:=(k:Int)+c+C.length) Tryz.underlying9 (by omega) (by omega) (by omega);have n:((k:Int)+c+C.length).toNat-((k:Int)+c).toNat=C.length:=by omega
     have o:((k:Int)+c).toNat=k+c:=by omega
     rw[n,o]at q;rw[ZyC (by omega)]at hD;obtain⟨X,hX⟩:∃X,(l.drop (k+c)).take C.length=X:=⟨_,rfl⟩;rw[hX]at q hD;by_cases f:X=C
     ·subst f;simp only[decide_true,Bool.true_eq_false,false_or]at hD;clear hX n o HN;rw[if_neg (by omega)]at hD;subst hD;have RR:=hid (rule8 (newAt0 w (.cells (rC l ere s ca cc ma mc e p) 123)));go_enter Tryz.func148,Tryz.ntmps148;go_wp2_with fail;refine g.out.mono ?_;rintro e w1 ⟨rfl,rfl⟩;go_wp2_with fail;refine(a.out _).mono ?_;rintro e w2 ⟨rfl,f2⟩;have rr:=RR.out w2 f2;have F2:=hid (((Fr.refl nob w).alloc _).trans' f2);clear f2;go_wp2;(try simp only[Exit.inBlock,Exit.then]);exact bodyPost_ret (results_tmp4 rfl _ _ _) rfl ⟨by unfold ZAv;simp only[Int.natCast_add];rfl,F2.out⟩
     ·rw[decide_eq_false f,if_pos (.inl rfl)]at hD;subst hD;have A:(X==C)=false:=beq_eq_false_iff_ne.2 f;clear hX n o HN f;have RR:=hid (rule8 (newAt0 w (.cells (rC l ere s ca cc ma mc e p) 123)));go_enter Tryz.func148,Tryz.ntmps148;go_wp2_with fail;refine g.out.mono ?_;rintro e w1 ⟨rfl,rfl⟩;go_wp2_with fail;refine(a.out _).mono ?_;rintro e w2 ⟨rfl,f2⟩;have rr:=RR.out w2 f2;have F2:=hid (((Fr.refl nob w).alloc _).trans' f2);clear f2;go_wp2;(try simp only[Exit.inBlock,Exit.then]);exact bodyPost_ret (results_tmp4 rfl _ _ _) rfl ⟨rfl,F2.out⟩
  |true=>
   have B:=ahd_le ha (by decide);simp only[List.length_singleton]at B;have v:k+c<l.length:=by omega
   have q1:(k:Int)+c<l.length:=by omega
   have L:l[k+c]=44:=by
    unfold ahd at ha;rw[List.drop_eq_getElem_cons v]at ha;simp[List.isPrefixOf]at ha;exact ha.symm
   obtain⟨x,d,t⟩:∃x d,Zp9 l (k+c+1)=(x,d):=⟨_,_,rfl⟩;obtain⟨g1,g2,g3⟩:=ZzI l (k+c+1) B;rw[t]at g1 g2 g3;simp only at g1 g2 g3;have hN:=HN.out (k+c+1) (w.alloc (.cells (rC l ere s ca cc ma mc e p) 123)) (by omega);rw[t,show((k+c+1:Nat):Int)=(k:Int)+c+1 from by omega]at hN;simp only at hN;have r:=hid hN;clear hN;by_cases F:d=0
   ·subst F;rw[ZzH hM h0 ha t,hC]at hD;clear ha hM t hC;by_cases i:l.length<k+c+1+C.length
    ·have he:ahd l (k+c+1) C=false:=ZyD i u;rw[if_pos (.inl he)]at hD;subst hD;have q2:(l.length:Int)<(k:Int)+c+1+C.length:=by omega
     clear HN he;have RR:=hid (rule8 (newAt0 w (.cells (rC l ere s ca cc ma mc e p) 123)));go_enter Tryz.func148,Tryz.ntmps148;go_wp2_with fail;refine g.out.mono ?_;rintro e w1 ⟨rfl,rfl⟩;go_wp2_with fail;refine r.out.mono ?_;rintro e w1 ⟨rfl,rfl⟩;go_wp2_with fail;refine(a.out _).mono ?_;rintro e w2 ⟨rfl,f2⟩;have rr:=RR.out w2 f2;have F2:=hid (((Fr.refl nob w).alloc _).trans' f2);clear f2;go_wp2;(try simp only[Exit.inBlock,Exit.then]);exact bodyPost_ret (results_tmp4 rfl _ _ _) rfl ⟨rfl,F2.out⟩
    ·have q2:¬(l.length:Int)<(k:Int)+c+1+C.length:=by omega
     have q:=Zaf (P:=Tryz.prog) l (lo:=(k:Int)+c+1) (hi:=(k:Int)+c+1+C.length) Tryz.underlying9 (by omega) (by omega) (by omega);have n:((k:Int)+c+1+C.length).toNat-((k:Int)+c+1).toNat=C.length:=by omega
     have o:((k:Int)+c+1).toNat=k+c+1:=by omega
     rw[n,o]at q;rw[ZyC (by omega)]at hD;obtain⟨X,hX⟩:∃X,(l.drop (k+c+1)).take C.length=X:=⟨_,rfl⟩;rw[hX]at q hD;by_cases f:X=C
     ·subst f;simp only[decide_true,Bool.true_eq_false,false_or]at hD;clear hX n o HN;rw[if_neg (by omega)]at hD;subst hD;have RR:=hid (rule8 (newAt0 w (.cells (rC l ere s ca cc ma mc e p) 123)));go_enter Tryz.func148,Tryz.ntmps148;go_wp2_with fail;refine g.out.mono ?_;rintro e w1 ⟨rfl,rfl⟩;go_wp2_with fail;refine r.out.mono ?_;rintro e w1 ⟨rfl,rfl⟩;go_wp2_with fail;refine(a.out _).mono ?_;rintro e w2 ⟨rfl,f2⟩;have rr:=RR.out w2 f2;have F2:=hid (((Fr.refl nob w).alloc _).trans' f2);clear f2;go_wp2;(try simp only[Exit.inBlock,Exit.then]);exact bodyPost_ret (results_tmp4 rfl _ _ _) rfl ⟨by unfold ZAv;simp only[Int.natCast_add];rfl,F2.out⟩
     ·rw[decide_eq_false f,if_pos (.inl rfl)]at hD;subst hD;have A:(X==C)=false:=beq_eq_false_iff_ne.2 f;clear hX n o HN f;have RR:=hid (rule8 (newAt0 w (.cells (rC l ere s ca cc ma mc e p) 123)));go_enter Tryz.func148,Tryz.ntmps148;go_wp2_with fail;refine g.out.mono ?_;rintro e w1 ⟨rfl,rfl⟩;go_wp2_with fail;refine r.out.mono ?_;rintro e w1 ⟨rfl,rfl⟩;go_wp2_with fail;refine(a.out _).mono ?_;rintro e w2 ⟨rfl,f2⟩;have rr:=RR.out w2 f2;have F2:=hid (((Fr.refl nob w).alloc _).trans' f2);clear f2;go_wp2;(try simp only[Exit.inBlock,Exit.then]);exact bodyPost_ret (results_tmp4 rfl _ _ _) rfl ⟨rfl,F2.out⟩
   ·have G:0<d:=by omega
    have M:(0:Int)<d:=by omega
    rw[ZzW hM h0 ha t G,hC]at hD;clear ha hM t hC;by_cases i:l.length<k+c+1+d+C.length
    ·have he:ahd l (k+c+1+d) C=false:=ZyD i u;rw[if_pos (.inl he)]at hD;subst hD;have q2:(l.length:Int)<(k:Int)+c+1+d+C.length:=by omega
     clear HN he;have RR:=hid (rule8 (newAt0 w (.cells (rC l ere s ca cc ma mc e p) 123)));go_enter Tryz.func148,Tryz.ntmps148;go_wp2_with fail;refine g.out.mono ?_;rintro e w1 ⟨rfl,rfl⟩;go_wp2_with fail;refine r.out.mono ?_;rintro e w1 ⟨rfl,rfl⟩;go_wp2_with fail;refine(a.out _).mono ?_;rintro e w2 ⟨rfl,f2⟩;have rr:=RR.out w2 f2;have F2:=hid (((Fr.refl nob w).alloc _).trans' f2);clear f2;go_wp2;(try simp only[Exit.inBlock,Exit.then]);exact bodyPost_ret (results_tmp4 rfl _ _ _) rfl ⟨rfl,F2.out⟩
    ·have q2:¬(l.length:Int)<(k:Int)+c+1+d+C.length:=by omega
     have q:=Zaf (P:=Tryz.prog) l (lo:=(k:Int)+c+1+d) (hi:=(k:Int)+c+1+d+C.length) Tryz.underlying9 (by omega) (by omega) (by omega);have n:((k:Int)+c+1+d+C.length).toNat-((k:Int)+c+1+d).toNat=C.length:=by omega
     have o:((k:Int)+c+1+d).toNat=k+c+1+d:=by omega
     rw[n,o]at q;rw[ZyC (by omega)]at hD;obtain⟨X,hX⟩:∃X,(l.drop (k+c+1+d)).take C.length=X:=⟨_,rfl⟩;rw[hX]at q hD;by_cases f:X=C
     ·subst f;simp only[decide_true,Bool.true_eq_false,false_or]at hD;clear hX n o HN;by_cases N:x<m
      ·rw[if_pos (by omega)]at hD;subst hD;have q3:(x:Int)<m:=by omega
       have RR:=hid (rule8 (newAt0 w (.cells (rC l ere s ca cc ma mc e p) 123)));go_enter Tryz.func148,Tryz.ntmps148;go_wp2_with fail;refine g.out.mono ?_;rintro e w1 ⟨rfl,rfl⟩;go_wp2_with fail;refine r.out.mono ?_;rintro e w1 ⟨rfl,rfl⟩;go_wp2_with fail;refine(a.out _).mono ?_;rintro e w2 ⟨rfl,f2⟩;have rr:=RR.out w2 f2;have F2:=hid (((Fr.refl nob w).alloc _).trans' f2);clear f2;go_wp2;(try simp only[Exit.inBlock,Exit.then]);exact bodyPost_ret (results_tmp4 rfl _ _ _) rfl ⟨rfl,F2.out⟩
      ·rw[if_neg (by omega)]at hD;subst hD;have q3:¬(x:Int)<m:=by omega
       have RR:=hid (rule8 (newAt0 w (.cells (rC l ere s ca cc ma mc e p) 123)));go_enter Tryz.func148,Tryz.ntmps148;go_wp2_with fail;refine g.out.mono ?_;rintro e w1 ⟨rfl,rfl⟩;go_wp2_with fail;refine r.out.mono ?_;rintro e w1 ⟨rfl,rfl⟩;go_wp2_with fail;refine(a.out _).mono ?_;rintro e w2 ⟨rfl,f2⟩;have rr:=RR.out w2 f2;have F2:=hid (((Fr.refl nob w).alloc _).trans' f2);clear f2;go_wp2;(try simp only[Exit.inBlock,Exit.then]);exact bodyPost_ret (results_tmp4 rfl _ _ _) rfl ⟨by unfold ZAv;simp only[Int.natCast_add];rfl,F2.out⟩
     ·rw[decide_eq_false f,if_pos (.inl rfl)]at hD;subst hD;have A:(X==C)=false:=beq_eq_false_iff_ne.2 f;clear hX n o HN f;have RR:=hid (rule8 (newAt0 w (.cells (rC l ere s ca cc ma mc e p) 123)));go_enter Tryz.func148,Tryz.ntmps148;go_wp2_with fail;refine g.out.mono ?_;rintro e w1 ⟨rfl,rfl⟩;go_wp2_with fail;refine r.out.mono ?_;rintro e w1 ⟨rfl,rfl⟩;go_wp2_with fail;refine(a.out _).mono ?_;rintro e w2 ⟨rfl,f2⟩;have rr:=RR.out w2 f2;have F2:=hid (((Fr.refl nob w).alloc _).trans' f2);clear f2;go_wp2;(try simp only[Exit.inBlock,Exit.then]);exact bodyPost_ret (results_tmp4 rfl _ _ _) rfl ⟨rfl,F2.out⟩
def MS(w:World)(l:List (Nat×List UInt8))(u:Value):Prop:=(u=.slice none 0 0∧l=[])∨∃g off cap,u=.slice (some ⟨g,off,none⟩) l.length cap∧∀j v,(mkC l)[j]? =some v→w.cell? ⟨g,off+j,none⟩=some v
theorem MS.on{w w':World}{l:List (Nat×List UInt8)}{u:Value}(h:MS w l u)(f:Fr nob w w'):MS w' l u:=by
 rcases h with h|⟨g,off,a,rfl,h⟩
 ·exact .inl h
 ·exact .inr ⟨g,off,a,rfl,fun j v hj=>f.cell (h j v hj) (fun x=>x)⟩
theorem MS.nil(w:World):MS w [] (.slice none 0 0):=.inl ⟨rfl,rfl⟩
theorem MS.shape{w:World}{l:List (Nat×List UInt8)}{u:Value}(h:MS w l u):∃a c,u=.slice a l.length c:=by
 rcases h with⟨rfl,rfl⟩|⟨g,off,b,rfl,_⟩
 ·exact⟨_,_,rfl⟩
 ·exact⟨_,_,rfl⟩
theorem ZyW(l:List (Nat×List UInt8)):(mkC l).length=l.length*2:=by
 induction l with
 |nil=>rfl
 |cons m r ih=>rw[show mkC (m::r)=[.int .i64 (m.1:Nat),.string ⟨m.2.toArray⟩]++mkC r from by simp[mkC],List.length_append,ih];simp;omega
theorem mkC_add(l m:List (Nat×List UInt8)):mkC (l++m)=mkC l++mkC m:=by simp[mkC]
theorem ZzX(l:List (Nat×List UInt8)):∀u∈mkC l,u.oneCell'=true:=by
 intro u hu;unfold mkC at hu;obtain⟨m,_,hu⟩:=List.mem_flatMap.1 hu;simp only[List.mem_cons,List.not_mem_nil,or_false]at hu;rcases hu with rfl|rfl<;>rfl
theorem info_Md:(Tryz.prog.info? 96).map (fun i=>(i.zero,i.size,i.bytes))=some (some (.agg #[.int .i64 0,.string ByteArray.empty]),2,24):=by kernel_rfl
theorem step_append_ms{ops:Array Oper}{o:Oper}{a:Act}{w:World}{K:Act→World→Prop}{Q:Exit→Act→World→Prop}{E:Prop}
 (hg:o.guard=none) (s x:Operand) (hop:o.op=Op.call {callee:=Callee.builtin Builtin.append,args:= #[s,x],argTypes:= #[37,37]})
 (l m:List (Nat×List UInt8)) (v ux:Value) (hs:a.eval s=v) (hown:w.ownsRow 0 96 2 v l.length (mkC l)) (hx:a.eval x=ux) (hm:MS w m ux) (hb:l.length+m.length≤3000000)
 (hK:∀v' w',w'.ownsRow 0 96 2 v' (l++m).length (mkC (l++m))→Fr (fun k=>v.ownBlock=some k) w w'→(∀k,v'.ownBlock=some k→v.ownBlock=some k∨w.heap.size≤k)→K (a.put o.dst v') w'):
 if Region.wanted o (yielded ops a.tmps)=true then Oper.wp Tryz.prog o a w K Q else E:=by
 obtain⟨i0,hi,e,f,g⟩:=info_parts info_Md;rcases hm with⟨rfl,rfl⟩|⟨q,off,d,rfl,hc⟩
 ·have hw:Region.wanted o (yielded ops a.tmps)=true:=by simp[Region.wanted,hg]
  rw[if_pos hw];have hr:=run_append_owned_none (P:=Tryz.prog) (w:=w) 0 37 o.type 96 i0 2 Tryz.underlying37 hi v l.length _ hown;unfold Oper.wp execOp;simp only[hop,resolve,invoke,builtin,Sem.run_bind,Sem.run_pure,Result.andThen_ok,List.map_toArray,List.map_cons,List.map_nil,hs,hx,hr];exact hK _ _ (by simpa using hown) (Fr.refl _ _) (fun k hk=>.inl hk)
 ·refine step_append_g hg s x _ hop 96 i0 (.agg #[.int .i64 0,.string ByteArray.empty]) 2 24 Tryz.underlying37 hi e f g rfl (by decide) v l.length _ hs hown ⟨q,off,none⟩ m.length d (mkC m) hx (ZyW m) ?_ (ZzX m) (by unfold maxLen;omega) (by omega) ?_
  ·intro j u hj;have:=hc j u hj;by_cases h0:j=0<;>simpa[Addr.add,h0]using this
  ·intro v' w' b c;exact hK v' w' (by rw[mkC_add,List.length_append];exact b) c.fr c.old
theorem Zyw{w:World}{b:Nat}{e:TypeId}(h:w.heap[b]? =some (.cells #[] e (0,0))):w.ownsRow 0 e 2 (.slice (some ⟨b,0,none⟩) 0 0) ([]:List (Nat×List UInt8)).length (mkC []):=by
 refine⟨by simp[mkC],.inr ⟨b,0,#[],rfl,Nat.zero_le _,h,by simp,by simp[maxLen],by simp,by simp[mkC]⟩⟩
theorem MS.of_own{w:World}{l:List (Nat×List UInt8)}{u:Value}(h:w.ownsRow 0 96 2 u l.length (mkC l)):MS w l u:=by
 obtain⟨_,h⟩:=h;rcases h with⟨rfl,h0⟩|⟨r,b,c,rfl,_,hr,hn,_,_,a⟩
 ·exact .inl ⟨rfl,List.length_eq_zero_iff.1 h0⟩
 ·refine .inr ⟨r,0,b,rfl,fun j x hj=> ?_⟩;rw[←a,List.getElem?_take]at hj;split at hj
  ·exact cell_at hr (by simpa using hj)
  ·cases hj
theorem MS.one{w:World}{b:Nat}{k:Nat}{t:List UInt8}{e:TypeId}(h:w.heap[b]? =some (.cells #[.int .i64 k,.string ⟨t.toArray⟩] e (0,0))):MS w [(k,t)] (.slice (some ⟨b,0,none⟩) 1 1):=by
 refine .inr ⟨b,0,1,rfl,fun j y hj=> ?_⟩
 match j,hj with
 |0,hj=>simp[mkC]at hj;subst hj;exact cell_at h rfl
 |1,hj=>simp[mkC]at hj;subst hj;exact cell_at h rfl
abbrev C25(w:World)(b:Nat)(v2 v5:Value):Prop:=w.cell? ⟨b,2,none⟩=some v2∧w.cell? ⟨b,5,none⟩=some v5
theorem C25.on{w w':World}{b:Nat}{v2 v5:Value}(h:C25 w b v2 v5)(f:Fr nob w w'):C25 w' b v2 v5:=⟨f.cell h.1 (fun x=>x),f.cell h.2 (fun x=>x)⟩
abbrev zR:Array Value:= #[.string ⟨#[]⟩,.bool false,.int .i64 0,.int .i64 0,.slice none 0 0,.slice none 0 0,.int .i64 0,.int .i64 0]
abbrev setEight(w:World)(b:Nat)(v0 v1 v2 v3 v4 v5 v6 v7:Value):World:=((((((((w.setCell ⟨b,0,none⟩ v0).setCell ⟨b,1,none⟩ v1).setCell ⟨b,2,none⟩ v2).setCell ⟨b,3,none⟩ v3).setCell ⟨b,4,none⟩ v4).setCell ⟨b,5,none⟩ v5).setCell ⟨b,6,none⟩ v6).setCell ⟨b,7,none⟩ v7)
theorem ZyE{w:World}{b:Nat}{a0 a1 a2 a3 a4 a5 a6 a7:Value}{T:TypeId}{fr:Nat×Nat}(h:w.heap[b]? =some (.cells #[a0,a1,a2,a3,a4,a5,a6,a7] T fr))(v0 v1 v2 v3 v4 v5 v6 v7:Value):
 (setEight w b v0 v1 v2 v3 v4 v5 v6 v7).heap[b]? =some (.cells #[v0,v1,v2,v3,v4,v5,v6,v7] T fr):=by
 have h0:(w.setCell ⟨b,0,none⟩ v0).heap[b]? =some (.cells #[v0,a1,a2,a3,a4,a5,a6,a7] T fr):=Za h 0 v0;have h1:((w.setCell ⟨b,0,none⟩ v0).setCell ⟨b,1,none⟩ v1).heap[b]? =some (.cells #[v0,v1,a2,a3,a4,a5,a6,a7] T fr):=Za h0 1 v1;have h2:(((w.setCell ⟨b,0,none⟩ v0).setCell ⟨b,1,none⟩ v1).setCell ⟨b,2,none⟩ v2).heap[b]? =some (.cells #[v0,v1,v2,a3,a4,a5,a6,a7] T fr):=Za h1 2 v2;have h3:((((w.setCell ⟨b,0,none⟩ v0).setCell ⟨b,1,none⟩ v1).setCell ⟨b,2,none⟩ v2).setCell ⟨b,3,none⟩ v3).heap[b]? =some (.cells #[v0,v1,v2,v3,a4,a5,a6,a7] T fr):=Za h2 3 v3;have h4:(((((w.setCell ⟨b,0,none⟩ v0).setCell ⟨b,1,none⟩ v1).setCell ⟨b,2,none⟩ v2).setCell ⟨b,3,none⟩ v3).setCell ⟨b,4,none⟩ v4).heap[b]? =some (.cells #[v0,v1,v2,v3,v4,a5,a6,a7] T fr):=Za h3 4 v4;have h5:((((((w.setCell ⟨b,0,none⟩ v0).setCell ⟨b,1,none⟩ v1).setCell ⟨b,2,none⟩ v2).setCell ⟨b,3,none⟩ v3).setCell ⟨b,4,none⟩ v4).setCell ⟨b,5,none⟩ v5).heap[b]? =some (.cells #[v0,v1,v2,v3,v4,v5,a6,a7] T fr):=Za h4 5 v5
 have h6:(((((((w.setCell ⟨b,0,none⟩ v0).setCell ⟨b,1,none⟩ v1).setCell ⟨b,2,none⟩ v2).setCell ⟨b,3,none⟩ v3).setCell ⟨b,4,none⟩ v4).setCell ⟨b,5,none⟩ v5).setCell ⟨b,6,none⟩ v6).heap[b]? =some (.cells #[v0,v1,v2,v3,v4,v5,v6,a7] T fr):=Za h5 6 v6;have h7:((((((((w.setCell ⟨b,0,none⟩ v0).setCell ⟨b,1,none⟩ v1).setCell ⟨b,2,none⟩ v2).setCell ⟨b,3,none⟩ v3).setCell ⟨b,4,none⟩ v4).setCell ⟨b,5,none⟩ v5).setCell ⟨b,6,none⟩ v6).setCell ⟨b,7,none⟩ v7).heap[b]? =some (.cells #[v0,v1,v2,v3,v4,v5,v6,v7] T fr):=Za h6 7 v7;exact h7
theorem ZyX{w a:World}{b:Nat}(f:Fr nob a w)(hb:a.heap.size≤b)(v0 v1 v2 v3 v4 v5 v6 v7:Value):Fr nob a (setEight w b v0 v1 v2 v3 v4 v5 v6 v7):=by
 have h:∀(x:World) (j:Nat) (v:Value),Fr nob a x→Fr nob a (x.setCell ⟨b,j,none⟩ v):=fun x j v hx=>hx.setCell (p:=⟨b,j,none⟩) (fun h=>absurd h (Nat.not_lt.2 hb)) v;exact h _ _ _ (h _ _ _ (h _ _ _ (h _ _ _ (h _ _ _ (h _ _ _ (h _ _ _ (h _ _ _ f)))))))
def Lo(B:Nat)(w w':World):Prop:=∀k o,B≤k→w.heap[k]? =some o→w'.heap[k]? =some o
theorem Lo.refl(B:Nat)(w:World):Lo B w w:=fun _ _ _ h=>h
theorem Lo.set{B:Nat}{a w:World}(h:Lo B a w){p:Addr}(hp:p.block<B)(v:Value):Lo B a (w.setCell p v):=fun k o hk ho=>Zc (h k o hk ho) (by omega) v
theorem Lo.setEight{B:Nat}{a w:World}(h:Lo B a w){b:Nat}(hb:b<B)(v0 v1 v2 v3 v4 v5 v6 v7:Value):Lo B a (setEight w b v0 v1 v2 v3 v4 v5 v6 v7):=by
 have g:∀(x:World) (j:Nat) (v:Value),Lo B a x→Lo B a (x.setCell ⟨b,j,none⟩ v):=fun x j v hx=>hx.set (p:=⟨b,j,none⟩) hb v;exact g _ _ _ (g _ _ _ (g _ _ _ (g _ _ _ (g _ _ _ (g _ _ _ (g _ _ _ (g _ _ _ h)))))))
theorem Lo.trans{B:Nat}{a b c:World}(h:Lo B a b)(g:Lo B b c):Lo B a c:=fun k o hk ho=>g k o hk (h k o hk ho)
theorem Lo.weak{B B':Nat}{a b:World}(h:Lo B a b)(hb:B≤B'):Lo B' a b:=fun k o hk ho=>h k o (Nat.le_trans hb hk) ho
theorem MS.lo{w w':World}{l:List (Nat×List UInt8)}{u:Value}{B:Nat}(h:w.ownsRow 0 96 2 u l.length (mkC l))(hb:∀k,u.ownBlock=some k→B≤k)(g:Lo B w w'):MS w' l u:=by
 obtain⟨_,h⟩:=h;rcases h with⟨rfl,h0⟩|⟨r,b,c,rfl,_,hr,hn,_,_,a⟩
 ·exact .inl ⟨rfl,List.length_eq_zero_iff.1 h0⟩
 ·refine .inr ⟨r,0,b,rfl,fun j x hj=> ?_⟩;rw[←a,List.getElem?_take]at hj;split at hj
  ·exact cell_at (g r _ (hb r (by simp[Value.ownBlock])) hr) (by simpa using hj)
  ·cases hj
theorem ZAH(l:List UInt8)(ere:Bool)(s:RxS)(ca:Option Addr)(cc:Nat)(ma:Option Addr)(mc:Nat)(t:List UInt8)(w:World)(hl:s.marks.length≤100000)(hm:MS w s.marks (.slice ma s.marks.length mc)):
 Calls Tryz.prog 93 #[rV l ere s ca cc ma mc 0 0,.string ⟨t.toArray⟩] w fun x w'=>∃ma' mc',x=.returned (rV l ere (s.mark t) ca cc ma' mc' 0 0)∧(∀W,Lo w.heap.size w' W→MS W (s.mark t).marks (.slice ma' (s.mark t).marks.length mc'))∧Fr nob w w':=by
 obtain⟨w1,n⟩:∃w1,w1=w.alloc (.cells (rC l ere s ca cc ma mc 0 0) 123):=⟨_,rfl⟩;obtain⟨w2,d⟩:∃w2,w2=w1.alloc (.cells zR 123):=⟨_,rfl⟩;have M:w1.heap.size=w.heap.size+1:=by rw[n];simp
 have N:w2.heap.size=w.heap.size+2:=by rw[d];simp;omega
 have f:w2.heap[w.heap.size]? =some (.cells (rC l ere s ca cc ma mc 0 0) 123 (0,0)):=by rw[d];exact heap_alloc_lt _ (by rw[n];exact heap_alloc_new _ _)
 have E:w2.heap[w.heap.size+1]? =some (.cells zR 123 (0,0)):=by rw[d];exact heap_alloc_new' _ _ _ M.symm
 have v:Fr nob w w2:=by rw[d,n];exact((Fr.refl nob w).alloc _).alloc _
 have F:C25 w2 w.heap.size (.int .i64 s.at_) (.slice ma s.marks.length mc):=⟨cell_at f rfl,cell_at f rfl⟩;have HM:=hid (hm.on v);have HC:=hid F;have H:=hid v;have K:=hid n;have L:=hid d;have O:=hid f;have I:=hid E;have RR:=hid (rule8 f);clear n d f E v F hm;unfold rV;go_enter Tryz.func93,Tryz.ntmps93;go_wp2_with(first|rw[←K.out]|rw[←L.out]);have q1:=RR.out (World.drew w2) ((Fr.refl nob w2).drew);have r0:∀Z,C25 (World.alloc w2 Z) w.heap.size (.int .i64 s.at_) (.slice ma s.marks.length mc):=fun Z=>C25.on HC.out ((Fr.refl nob w2).alloc Z);have r1:∀Z,C25 (World.drew (World.alloc w2 Z)) w.heap.size (.int .i64 s.at_) (.slice ma s.marks.length mc):=fun Z=>C25.on HC.out (((Fr.refl nob w2).alloc Z).drew);have r2:∀Z Y,C25 (World.alloc (World.alloc w2 Z) Y) w.heap.size (.int .i64 s.at_) (.slice ma s.marks.length mc):=fun Z Y=>C25.on HC.out (((Fr.refl nob w2).alloc Z).alloc Y)
 have r3:∀Z Y,C25 (World.alloc (World.drew (World.alloc w2 Z)) Y) w.heap.size (.int .i64 s.at_) (.slice ma s.marks.length mc):=fun Z Y=>C25.on HC.out (((Fr.refl nob w2).alloc Z).drew.alloc Y);have r4:∀Z,C25 (World.alloc (World.drew w2) Z) w.heap.size (.int .i64 s.at_) (.slice ma s.marks.length mc):=fun Z=>C25.on HC.out (((Fr.refl nob w2).drew).alloc Z);have r5:∀Z,C25 (World.drew (World.alloc (World.drew w2) Z)) w.heap.size (.int .i64 s.at_) (.slice ma s.marks.length mc):=fun Z=>C25.on HC.out ((((Fr.refl nob w2).drew).alloc Z).drew);have r6:∀Z Y,C25 (World.alloc (World.alloc (World.drew w2) Z) Y) w.heap.size (.int .i64 s.at_) (.slice ma s.marks.length mc):=fun Z Y=>C25.on HC.out ((((Fr.refl nob w2).drew).alloc Z).alloc Y);have r7:∀Z Y,C25 (World.alloc (World.drew (World.alloc (World.drew w2) Z)) Y) w.heap.size (.int .i64 s.at_) (.slice ma s.marks.length mc):=fun Z Y=>C25.on HC.out ((((Fr.refl nob w2).drew).alloc Z).drew.alloc Y)
 have P:(World.drew w2).heap.size=w.heap.size+2:=by simpa using N
 go_region_law
  (first
   |(refine step_append_ms rfl (.tmp 5) (.tmp 7) rfl [] s.marks _ _ (by rfl) (Zyw (by first|exact heap_alloc_new' _ _ _ (by(first|rfl|omega|(simp;done)|(simp;omega)|(simp[Value.ownBlock];done)|(simp[Value.ownBlock];omega)|(intros;simp[Value.ownBlock]at *;omega)))|exact heap_alloc_lt _ (heap_alloc_new' _ _ _ (by(first|rfl|omega|(simp;done)|(simp;omega)|(simp[Value.ownBlock];done)|(simp[Value.ownBlock];omega)|(intros;simp[Value.ownBlock]at *;omega)))))) (by rfl) (HM.out.on (by repeat(first|exact Fr.refl _ _|apply Fr.alloc|apply Fr.drew))) (by(first|rfl|omega|(simp;done)|(simp;omega)|(simp[Value.ownBlock];done)|(simp[Value.ownBlock];omega)|(intros;simp[Value.ownBlock]at *;omega))) ?_;intro v3 w3 m A g;have C:=hid A;have FA:=hid (fr_new (wr:=w2) (by repeat(first|exact Fr.refl _ _|apply Fr.alloc|apply Fr.drew)) A (by(first|rfl|omega|(simp;done)|(simp;omega)|(simp[Value.ownBlock];done)|(simp[Value.ownBlock];omega)|(intros;simp[Value.ownBlock]at *;omega))));have q:=hid m;have o:=hid (Zxw (B:=w2.heap.size) g (by(first|rfl|omega|(simp;done)|(simp;omega)|(simp[Value.ownBlock];done)|(simp[Value.ownBlock];omega)|(intros;simp[Value.ownBlock]at *;omega))) (by(first|rfl|omega|(simp;done)|(simp;omega)|(simp[Value.ownBlock];done)|(simp[Value.ownBlock];omega)|(intros;simp[Value.ownBlock]at *;omega))));have k3:=C25.on HC.out FA.out;have k4:∀Z,C25 (World.alloc w3 Z) w.heap.size (.int .i64 s.at_) (.slice ma s.marks.length mc):=fun Z=>C25.on HC.out (FA.out.alloc Z);clear m A g)
   |(refine step_append_ms rfl (.tmp 8) (.tmp 13) rfl s.marks [(s.at_,t)] _ _ (by rfl) (by first|exact q.out|exact q.out.alloc _) (by rfl) (MS.one (by first|exact heap_alloc_new' _ _ _ (by(first|rfl|omega|(simp;done)|(simp;omega)|(simp[Value.ownBlock];done)|(simp[Value.ownBlock];omega)|(intros;simp[Value.ownBlock]at *;omega)))|exact C.out.heap (heap_alloc_new' _ _ _ (by(first|rfl|omega|(simp;done)|(simp;omega)|(simp[Value.ownBlock];done)|(simp[Value.ownBlock];omega)|(intros;simp[Value.ownBlock]at *;omega)))) (by(first|rfl|omega|(simp;done)|(simp;omega)|(simp[Value.ownBlock];done)|(simp[Value.ownBlock];omega)|(intros;simp[Value.ownBlock]at *;omega)))|exact C.out.heap (heap_alloc_lt _ (heap_alloc_new' _ _ _ (by(first|rfl|omega|(simp;done)|(simp;omega)|(simp[Value.ownBlock];done)|(simp[Value.ownBlock];omega)|(intros;simp[Value.ownBlock]at *;omega))))) (by(first|rfl|omega|(simp;done)|(simp;omega)|(simp[Value.ownBlock];done)|(simp[Value.ownBlock];omega)|(intros;simp[Value.ownBlock]at *;omega))))) (by(first|rfl|omega|(simp;done)|(simp;omega)|(simp[Value.ownBlock];done)|(simp[Value.ownBlock];omega)|(intros;simp[Value.ownBlock]at *;omega))) ?_;intro v4 w4 b G j;obtain⟨a4,c4,rfl⟩:=(MS.of_own b).shape;have FB:=hid (Fr.trans (S:=nob) (a:=w2) (by repeat(first|exact FA.out|apply Fr.alloc|apply Fr.drew)) G (fun i hi e=>by have:=o.out i e;omega));have u:=hid b;have r:Hid (∀k,(Value.slice a4 (s.marks++[(s.at_,t)]).length c4).ownBlock=some k→w.heap.size+2≤k):=hid (by intro k hk;rcases j k hk with e|e;(have:=o.out k e;omega);(have:=FA.out.size;first|omega|(simp at e;omega)));obtain⟨⟨y0,y1,y2,y3,y4,y5,y6,y7⟩,z0,z1,z2,z3,z4,z5,z6,z7⟩:=RR.out w4 FB.out;clear b G j))
 all_goals
  have y:=Zc (p:=⟨w.heap.size,5,none⟩) (FB.out.heap I.out (fun x=>x)) (by simp) (.slice a4 (s.marks.length+1) c4);have J:=hid ((H.out.trans' FB.out).setCell (p:=⟨w.heap.size,5,none⟩) (fun h=>absurd h (Nat.lt_irrefl _)) (.slice a4 (s.marks.length+1) c4));have HX:=hid y;have xx:=rule8 y _ (Fr.refl nob _);clear y;have c:(s.mark t).marks.length=s.marks.length+1:=by simp[RxS.mark]
  have D:=hid c;clear c;go_wp2;have c:=D.out;refine bodyPost_ret (ZyN l ere (s.mark t) ca cc a4 c4 0 0 rfl rfl (by unfold rC;rw[c];exact ZyE HX.out _ _ _ _ _ _ _ _)) rfl ⟨_,_,rfl,?_,ZyX J.out (by omega) _ _ _ _ _ _ _ _⟩;exact fun W hW=>MS.lo u.out r.out ((((Lo.refl _ _).set (by show w.heap.size<_;omega) _).setEight (by omega) _ _ _ _ _ _ _ _).trans (hW.weak (by omega)))
theorem d_class(nm:ByteArray)(S:S4)(hS:ZaD (Zak nm)=S)(w:World):Calls Tryz.prog 169 #[.string nm] w fun e w'=>e=.returned (ZcR S)∧Fr nob w w':=by
 have hc:=fun w=>ZwS nm _ rfl w;rw[hS]at hc;obtain⟨q,hq⟩:∃q,(Zak nm).isSome=q:=⟨_,rfl⟩;rw[hq]at hc;have HC:=hid hc;clear hc hS hq;go_enter Tryz.func169,Tryz.ntmps169;go_wp2_with fail;refine(HC.out _).mono ?_;rintro e w1 ⟨rfl,f1⟩;have f:=f1.heap (newAt0 w _) (fun x=>x);have rr:=Zl f;have HB:=hid f;have F1:=hid f1;clear f1 f;go_wp2;have g:=heap_alloc_lt (w:=w1) (.cells #[.int .u64 S.a,.int .u64 S.b,.int .u64 S.c,.int .u64 S.d] 33) HB.out;exact bodyPost_ret (Zww (s:=S) rfl rfl (setFour_heap g _ _ _ _)) rfl ⟨rfl,Zp ((((Fr.refl nob w).alloc _).trans' F1.out).alloc _) (Nat.le_refl _) _ _ _ _⟩
theorem ZAW(s:S4)(w:World):Calls Tryz.prog 145 #[ZcR s] w fun e w'=>e=.returned (.agg (nine 1 s (.slice none 0 0) 0 0 0).toArray)∧Fr nob w w':=by
 go_enter Tryz.func145,Tryz.ntmps145;go_wp2;(try simp only[Exit.inBlock,Exit.then]);refine bodyPost_ret (results_T (k:=1) (s:=s) (v:=.slice none 0 0) (mn:=0) (mx:=0) (nu:=0) rfl rfl (heap_alloc_new' _ _ _ (by simp))) rfl ⟨rfl,((Fr.refl _ _).alloc _).alloc _⟩
end Go.Proofs.YtgllcniibbaoaaaGreatDoor
