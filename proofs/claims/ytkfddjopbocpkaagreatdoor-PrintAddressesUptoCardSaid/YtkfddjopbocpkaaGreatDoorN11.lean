/- Lemmas of this claim. -/
import Derived.Test.YtkfddjopbocpkaaGreatDoorN08
import Derived.Test.YtkfddjopbocpkaaGreatDoorN10
set_option linter.unusedVariables false
set_option linter.unusedSimpArgs false
set_option maxRecDepth 100000
set_option maxHeartbeats 4000000
namespace Go.Proofs.YtkfddjopbocpkaaGreatDoor
open Go.Lib (hid)
open Go.RowKit
def mkC(l:List (Nat×List UInt8)):List Value:=l.flatMap fun m=>[.int .i64 (m.1:Nat),.string ⟨m.2.toArray⟩]
def OwC(w:World)(l:List Nat)(v:Value):Prop:=w.ownsRow 0 3 1 v l.length (l.map fun(n:Nat)=>Value.int .i64 n)
def OwM(w:World)(l:List (Nat×List UInt8))(v:Value):Prop:=w.ownsRow 0 55 2 v l.length (mkC l)
structure Br(b:Nat)(l:List UInt8)(s:RxS)(S:Nat→Prop)(cv mv:Value)(w:World):Prop where
 blk:w.heap[b]? =some (.cells #[.string ⟨l.toArray⟩,.int .i64 s.at_,.int .i64 s.opened,cv,mv] 288 (0,0))
 cl:OwC w s.closed cv
 ma:OwM w s.marks mv
 nc:∀k,cv.ownBlock=some k→k≠b∧S k
 nm:∀k,mv.ownBlock=some k→k≠b∧S k
 ne:∀k,cv.ownBlock=some k→mv.ownBlock≠some k
 me:S b
def Rdg(b:Nat)(l:List UInt8)(s:RxS)(S:Nat→Prop)(w:World):Prop:=∃cv mv,Br b l s S cv mv w
structure Stp(S:Nat→Prop)(w:World)(S':Nat→Prop)(w':World):Prop where
 fr:Fr S w w'
 old:∀k,k<w.heap.size→S' k→S k
 lt:(∀k,S k→k<w.heap.size)→∀k,S' k→k<w'.heap.size
theorem Stp.refl(S:Nat→Prop)(w:World):Stp S w S w:=⟨Fr.refl _ _,fun _ _ h=>h,fun h=>h⟩
theorem Stp.trans{S S' S'':Nat→Prop}{w w' w'':World}(h:Stp S w S' w')(k:Stp S' w' S'' w''):Stp S w S'' w'':=
 ⟨h.fr.trans k.fr (fun i hi x=>h.old i hi x),fun i hi x=>h.old i hi (k.old i (Nat.lt_of_lt_of_le hi h.fr.size) x),fun hl=>k.lt (h.lt hl)⟩
theorem Stp.of{S:Nat→Prop}{w w':World}(h:Fr nob w w'):Stp S w S w':=⟨h.any,fun _ _ x=>x,fun hl k hk=>Nat.lt_of_lt_of_le (hl k hk) h.size⟩
def SO(S O:Nat→Prop):Nat→Prop:=fun k=>S k∨O k
theorem Stp.rn{S S' O:Nat→Prop}{w w':World}(h:Stp S w S' w'){t:Nd}{v:Value}(k:RN (SO S O) w t v):RN (SO S' O) w' t v:=RN.keep h.fr (fun _ _ x=>.inl x) (fun i hi x=>x.elim (fun y=>.inl (h.old i hi y)) .inr) t v k
theorem Stp.from{S S':Nat→Prop}{W w w':World}(h:Stp S w S' w')(f:Fr nob W w)(hS:∀k,S k→W.heap.size≤k):Fr nob W w':=
 f.trans h.fr (fun i hi x=>by have:=hS i x;omega)
theorem Br.on{b:Nat}{l:List UInt8}{s:RxS}{S:Nat→Prop}{cv mv:Value}{w w':World}(h:Br b l s S cv mv w)(f:Fr nob w w'):Br b l s S cv mv w':=
 ⟨f.heap h.blk (fun x=>x),ownsRow_fr h.cl f (fun _ _ x=>x),ownsRow_fr h.ma f (fun _ _ x=>x),h.nc,h.nm,h.ne,h.me⟩
theorem Rdg.on{b:Nat}{l:List UInt8}{s:RxS}{S:Nat→Prop}{w w':World}(h:Rdg b l s S w)(f:Fr nob w w'):Rdg b l s S w':=by
 obtain⟨cv,mv,h⟩:=h;exact⟨cv,mv,h.on f⟩
theorem Br.turned{b:Nat}{l:List UInt8}{s:RxS}{S:Nat→Prop}{cv mv:Value}{w:World}(h:Br b l s S cv mv w)(j:Nat)(u:Value)(s':RxS)
 (hj:(#[.string ⟨l.toArray⟩,.int .i64 s.at_,.int .i64 s.opened,cv,mv]:Array Value).setIfInBounds j u= #[.string ⟨l.toArray⟩,.int .i64 s'.at_,.int .i64 s'.opened,cv,mv]) (hc:s'.closed=s.closed) (hm:s'.marks=s.marks):
 Br b l s' S cv mv (w.setCell ⟨b,j,none⟩ u):=by
 have hf:=(Fr.refl (fun k=>k=b) w).setCell (p:=⟨b,j,none⟩) (fun _=>rfl) u;have hb:=Za h.blk j u;rw[hj]at hb;exact⟨hb,by rw[hc];exact ownsRow_fr h.cl hf (fun k hk e=>(h.nc k hk).1 e),by rw[hm];exact ownsRow_fr h.ma hf (fun k hk e=>(h.nm k hk).1 e),h.nc,h.nm,h.ne,h.me⟩
theorem Br.stp{b:Nat}{l:List UInt8}{s:RxS}{S:Nat→Prop}{cv mv:Value}{w:World}(h:Br b l s S cv mv w)(j:Nat)(u:Value):Stp S w S (w.setCell ⟨b,j,none⟩ u):=
 ⟨(Fr.refl S w).setCell (p:=⟨b,j,none⟩) (fun _=>h.me) u,fun _ _ x=>x,fun hl k hk=>by have:=hl k hk;simpa[World.setCell]using this⟩
theorem Zcg(b:Nat)(l t:List UInt8)(s:RxS)(S:Nat→Prop)(w:World)(hl:l.length≤1000000)(ht:t.length≤1000000)(ha:s.at_≤l.length)(h:Rdg b l s S w):
 Calls Tryz.prog 217 #[.pointer (some ⟨b,0,none⟩),.string ⟨t.toArray⟩] w fun x w'=>x=.returned (.bool (ahd l s.at_ t))∧Fr nob w w':=by
 obtain⟨cv,mv,h⟩:=h;have rr:=Zd h.blk;clear h;have c:(s.at_:Int)≤l.length:=by omega
 have hP:=fun w:World=>ZL (l.drop s.at_) t w (by simp;omega) (by omega);have a:=hid hP;clear hP;go_enter Tryz.func217,Tryz.ntmps217;go_wp2_with fail;refine region_fr 10 (by kernel_rfl) (by kernel_rfl) ?_;simp only[List.take_succ_cons,List.take_zero,List.drop_succ_cons,List.drop_zero]
 repeat(quiet_step (fail))
 refine wpQuiet_nil ?_;intro wC fC;go_wp2_with fail;refine(a.out _).mono ?_;rintro e w2 ⟨rfl,rfl⟩;go_wp2;go_ret;exact⟨rfl,fC⟩
theorem ZnV(b:Nat)(l:List UInt8)(s:RxS)(S:Nat→Prop)(w:World)(hl:l.length≤1000000)(h:Rdg b l s S w):
 Calls Tryz.prog 230 #[.pointer (some ⟨b,0,none⟩)] w fun x w'=>x=.returned (.bool (decide (l.length≤s.at_)))∧Fr nob w w':=by
 obtain⟨cv,mv,h⟩:=h;have rr:=Zd h.blk;clear h;have hd:decide ((l.length:Int)≤(s.at_:Int))=decide (l.length≤s.at_):=by simp
 go_enter Tryz.func230,Tryz.ntmps230;go_wp2_with fail;refine region_fr 9 (by kernel_rfl) (by kernel_rfl) ?_;simp only[List.take_succ_cons,List.take_zero,List.drop_succ_cons,List.drop_zero]
 repeat(quiet_step (fail))
 refine wpQuiet_nil ?_;intro wC fC;go_wp2;go_ret;exact⟨ret_bool (by simp),fC⟩
theorem Zko(b:Nat)(l:List UInt8)(s:RxS)(S:Nat→Prop)(w:World)(hl:l.length≤1000000)(ha:s.at_<l.length)(h:Rdg b l s S w):
 Calls Tryz.prog 232 #[.pointer (some ⟨b,0,none⟩)] w fun x w'=>x=.returned (.bool (ZbL l s.at_))∧Fr nob w w':=by
 obtain⟨cv,mv,h⟩:=h;have rr:=Zd h.blk;clear h;have k:(s.at_:Int)+1≤l.length:=by omega
 have hw:IntKind.i64.wrap ((s.at_:Int)+1)=s.at_+1:=IntWalk.i64_in _ (by omega);obtain⟨R,hR⟩:∃R,l.drop (s.at_+1)=R:=⟨_,rfl⟩;have j:R.length≤1000000:=by rw[←hR,List.length_drop];omega
 have g:=fun w:World=>ZL R [92,41] w (by omega) (by decide);have i:=fun w:World=>ZL R [92,124] w (by omega) (by decide);have d:=hid g;have f:=hid i;clear g i;unfold ZbL ahd;rw[hR];go_enter Tryz.func232,Tryz.ntmps232;go_wp2_with fail;refine region_fr 9 (by kernel_rfl) (by kernel_rfl) ?_;simp only[List.take_succ_cons,List.take_zero,List.drop_succ_cons,List.drop_zero]
 repeat(quiet_step (fail))
 refine wpQuiet_nil ?_;intro wC fC;obtain⟨p1,h1⟩:∃p,([92,41]:List UInt8).isPrefixOf R=p:=⟨_,rfl⟩;obtain⟨p2,h2⟩:∃p,([92,124]:List UInt8).isPrefixOf R=p:=⟨_,rfl⟩;rw[h1]at d;rw[h2]at f;have a:(R.isEmpty||([92,41]:List UInt8).isPrefixOf R||([92,124]:List UInt8).isPrefixOf R)=(R.isEmpty||p1||p2):=by rw[h1,h2]
 have c:=hid a;clear h1 h2 a;cases hE:R.isEmpty<;>cases p1<;>cases p2
 all_goals
  rw[hE]at c;go_wp2_with(first|(go_at_call 66;refine(d.out _).mono ?_;rintro e w' ⟨rfl,rfl⟩)|(go_at_call 66;refine(f.out _).mono ?_;rintro e w' ⟨rfl,rfl⟩));go_ret;exact⟨ret_bool (by rw[hE];exact c.out.symm),fC⟩
theorem ZbN(b:Nat)(l t:List UInt8)(s:RxS)(S:Nat→Prop)(w:World)(hl:l.length≤100000)(ht:t.length≤1000)(ha:s.at_≤l.length)(h:Rdg b l s S w):
 Calls Tryz.prog 229 #[.pointer (some ⟨b,0,none⟩),.string ⟨t.toArray⟩] w fun x w'=>x=.returned (.bool (ahd l s.at_ t))∧Rdg b l (if ahd l s.at_ t then s.go t.length else s) S w'∧Stp S w S w':=by
 have hA:=Zcg b l t s S w (by omega) (by omega) ha h;obtain⟨cv,mv,h⟩:=h;obtain⟨c,hc⟩:∃c,ahd l s.at_ t=c:=⟨_,rfl⟩;rw[hc]at hA⊢;have HB:=hid h;clear h;go_enter Tryz.func229,Tryz.ntmps229;go_wp2_with fail;refine hA.mono ?_;rintro e w1 ⟨rfl,f1⟩;have d:=HB.out.on f1;obtain⟨⟨c0,c1,c2,c3,c4⟩,d0,d1,d2,d3,d4⟩:=Zd d.blk _ (Fr.refl _ _);have a:=hid d;have F1:=hid f1;clear d f1;cases c with
 |false=>
  go_wp2;go_ret;exact⟨rfl,⟨cv,mv,a.out⟩,Stp.of F1.out⟩
 |true=>
  go_wp2;go_ret;exact⟨rfl,⟨cv,mv,a.out.turned 1 _ (s.go t.length) (by simp[RxS.go]) rfl rfl⟩,(Stp.of F1.out).trans (a.out.stp 1 _)⟩
def Zkp(e:Int)(p:Nat):List PanicEntry:=[{v:=.iface 285 (.agg #[.int .i64 e,.int .i64 (p:Nat)]),recovered:=false}]
theorem br_fail(e:Int)(p:Nat)(w:World):
 Calls Tryz.prog 231 #[.int .i64 e,.int .i64 (p:Nat)] w fun x w'=>x=.panicked (Zkp e p)∧w=w':=by
 go_enter Tryz.func231,Tryz.ntmps231;go_wp2;exact⟨rfl,rfl,rfl⟩
theorem Zff{l:List UInt8}{k c n:Nat}(h:l.length≤k):ZaQ (l.drop k) c n=(n,c):=by
 rw[List.drop_eq_nil_of_le h];rfl
theorem Zd5{l:List UInt8}{k c n:Nat}(h:k<l.length)(hd:¬(48≤l[k].toNat∧l[k].toNat≤57∧c≠3)):ZaQ (l.drop k) c n=(n,c):=by
 rw[List.drop_eq_getElem_cons h,ZaQ,if_neg hd]
theorem ZfY{l:List UInt8}{k c n:Nat}(h:k<l.length)(hd:48≤l[k].toNat∧l[k].toNat≤57∧c≠3):ZaQ (l.drop k) c n=ZaQ (l.drop (k+1)) (c+1) (n*10+(l[k].toNat-48)):=by
 rw[List.drop_eq_getElem_cons h,ZaQ,if_pos hd]
theorem Zkq:∀(r:List UInt8) (c n:Nat),c≤3→n<10^c→(ZaQ r c n).2≤3∧(ZaQ r c n).1<10^(ZaQ r c n).2∧c≤(ZaQ r c n).2∧(ZaQ r c n).2≤c+r.length
 |[],c,n,h,hn=>⟨h,hn,Nat.le_refl _,by simp[ZaQ]⟩
 |x::r,c,n,h,hn=>by
  rw[ZaQ];split
  ·next hd=>
   have hn2:n*10+(x.toNat-48)<10^(c+1):=by rw[Nat.pow_succ];omega
   have ih:=Zkq r (c+1) (n*10+(x.toNat-48)) (by omega) hn2;refine⟨ih.1,ih.2.1,by omega,?_⟩;have:=ih.2.2.2;rw[List.length_cons];omega
  ·exact⟨h,hn,Nat.le_refl _,by simp⟩
theorem Zfg{S:Nat→Prop}{a w:World}(h:Fr S a w)(s:ByteArray)(p:Nat):Fr S a (w.iter s p):=h.alloc _
def p10(c:Nat):Nat:=10^c
theorem Zih(c:Nat):p10 (c+1)=p10 c*10:=by unfold p10;rw[Nat.pow_succ]
theorem Zkr{c:Nat}(h:c≤3):p10 c≤1000:=by unfold p10;exact Nat.le_trans (Nat.pow_le_pow_right (by omega) h) (by omega)
theorem ZfZ(b:Nat)(l:List UInt8)(s:RxS)(S:Nat→Prop)(w:World)(hl:l.length≤100000)(ha:s.at_≤l.length)(h:Rdg b l s S w):
 Calls Tryz.prog 265 #[.pointer (some ⟨b,0,none⟩)] w fun x w'=>
  x=.returned (.tuple #[.int .i64 (ZaQ (l.drop s.at_) 0 0).1,.bool (decide (0<(ZaQ (l.drop s.at_) 0 0).2))])∧Rdg b l (s.go (ZaQ (l.drop s.at_) 0 0).2) S w'∧Stp S w S w':=by
 obtain⟨cv,mv,h⟩:=h;have rr:=Zd h.blk;have HB:=hid h;clear h;have C:(s.at_:Int)≤l.length:=by omega
 obtain⟨F,hF⟩:∃F,ZaQ (l.drop s.at_) 0 0=F:=⟨_,rfl⟩;rw[hF];have HF:=hid hF;clear hF;go_enter Tryz.func265,Tryz.ntmps265;go_wp2_with fail;refine region_fr 8 (by kernel_rfl) (by kernel_rfl) ?_;simp only[List.take_succ_cons,List.take_zero,List.drop_succ_cons,List.drop_zero]
 repeat(quiet_step (fail))
 refine wpQuiet_nil ?_;intro wC fC;have rc:∀(q:ByteArray) (p:Nat),(wC.iter q p).cell? ⟨b,1,none⟩=some (.int .i64 s.at_)∧(wC.iter q p).frozen? ⟨b,1,none⟩=false:=fun q p=>by
  obtain⟨⟨_,c1,_⟩,_,d1,_⟩:=rr _ (Zfg fC q p);exact⟨c1,d1⟩
 have A:=hid (fun(q:ByteArray) (p:Nat)=>HB.out.on (Zfg fC q p));have FC:=hid fC;clear rr fC;go_wp2_with fail
 go_loopw [4,5] (fun n c wr=>∃m k:Nat,n=.int .i64 m∧c=.int .i64 k∧wr=wC.iter ⟨(l.drop s.at_).toArray⟩ k∧k≤3∧s.at_+k≤l.length∧m<p10 k∧ZaQ (l.drop (s.at_+k)) k m=F) (fun _ c _=>4-(intOf c).toNat)
 case atStart=>exact⟨0,0,rfl,rfl,rfl,by omega,by omega,by decide,HF.out⟩
 case round=>
  obtain⟨m,k,rfl,rfl,rfl,hk,E,hm,hb⟩:=hrel;have t:∀p,F=(m,k)→Rdg b l (s.go F.2) S ((wC.iter ⟨(l.drop s.at_).toArray⟩ p).setCell ⟨b,1,none⟩ (.int .i64 ((s.at_:Int)+k)))∧Stp S w S ((wC.iter ⟨(l.drop s.at_).toArray⟩ p).setCell ⟨b,1,none⟩ (.int .i64 ((s.at_:Int)+k))):=fun p hF=>by
   subst hF;have h1:=A.out ⟨(l.drop s.at_).toArray⟩ p;exact⟨⟨cv,mv,h1.turned 1 _ (s.go k) (by simp[RxS.go]) rfl rfl⟩,(Stp.of (Zfg FC.out _ p)).trans (h1.stp 1 _)⟩
  have g:=hid t;clear t;have hp:=Zkr hk;by_cases o:s.at_+k<l.length
  ·have f:k<(l.drop s.at_).length:=by rw[List.length_drop];omega
   have d:k<(ByteArray.mk (l.drop s.at_).toArray).size:=by rw[Zbp];exact f
   have a:(ByteArray.mk (l.drop s.at_).toArray)[k]'d=l[s.at_+k]:=by rw[Zp6];exact List.getElem_drop
   by_cases hd:48≤l[s.at_+k].toNat∧l[s.at_+k].toNat≤57
   ·obtain⟨i,j⟩:=hd;obtain⟨x,hx⟩:∃x,l[s.at_+k]=x:=⟨_,rfl⟩;have u:∀ty,(Instr.next (.pointer (some ⟨wC.heap.size,0,none⟩)) true ty).run Tryz.prog (wC.iter ⟨(l.drop s.at_).toArray⟩ k)=.ok (.tuple #[.bool true,.int .i64 k,.int .i32 x.toNat]) (wC.iter ⟨(l.drop s.at_).toArray⟩ (k+1)):=fun ty=>by
     rw[run_next_ascii wC _ k ty d (by rw[a];omega),a,hx]
    by_cases h3:k=3
    ·subst h3;rw[Zd5 o (fun h=>h.2.2 rfl)]at hb;rw[hx]at i j;have t1:decide ((0:Int)<3)=true:=rfl;have hF:=g.out 4 hb.symm;subst hb;have e:=hid hF;obtain⟨y,z⟩:=rc ⟨(l.drop s.at_).toArray⟩ 4;clear f d a hm hF rc hx;go_wp2;go_ret2;exact⟨rfl,e.out⟩
    ·have B:((k:Int)==3)=false:=by simp;omega
     rw[ZfY o ⟨i,j,h3⟩]at hb;rw[hx]at i j hb;have v:=Zih k;have HX:=hid hb;have HP:=hid v;have D:k≤2:=by omega
     have G:m<1000:=by omega
     clear hb f d a h3 v hx rc;go_wp2;go_roundw
     case rel=>exact⟨m*10+(x.toNat-48),k+1,by go_num,by go_num,rfl,by omega,by omega,by rw[HP.out];omega,HX.out⟩
     case measure=>simp[intOf];omega
   ·rw[Zd5 o (fun h=>hd ⟨h.1,h.2.1⟩)]at hb;obtain⟨r,p,hr,u⟩:∃(r:Int) (p:Nat),(r<48∨(48≤r∧57<r))∧∀ty,(Instr.next (.pointer (some ⟨wC.heap.size,0,none⟩)) true ty).run Tryz.prog (wC.iter ⟨(l.drop s.at_).toArray⟩ k)=.ok (.tuple #[.bool true,.int .i64 k,.int .i32 r]) (wC.iter ⟨(l.drop s.at_).toArray⟩ p):=by
     by_cases ha:l[s.at_+k].toNat<128
     ·exact⟨l[s.at_+k].toNat,k+1,by omega,fun ty=>by rw[run_next_ascii wC _ k ty d (by rw[a];exact ha),a]⟩
     ·have hh:=decode_high (ByteArray.mk (l.drop s.at_).toArray) k d (by rw[a];omega);exact⟨_,_,by omega,fun ty=>run_next_any wC _ k ty d⟩
    have hF:=g.out p hb.symm;subst hb;have e:=hid hF;obtain⟨y,z⟩:=rc ⟨(l.drop s.at_).toArray⟩ p;clear f d a hd hm hF rc;rcases hr with hr|⟨H,I⟩
    all_goals
     go_wp2;go_ret2;exact⟨by simp,e.out⟩
  ·rw[Zff (by omega)]at hb;have u:∀ty,(Instr.next (.pointer (some ⟨wC.heap.size,0,none⟩)) true ty).run Tryz.prog (wC.iter ⟨(l.drop s.at_).toArray⟩ k)=.ok (.tuple #[.bool false]) (wC.iter ⟨(l.drop s.at_).toArray⟩ k):=fun ty=>run_next_end wC _ k ty (by rw[Zbp,List.length_drop];omega);have hF:=g.out k hb.symm;subst hb;have e:=hid hF;obtain⟨y,z⟩:=rc ⟨(l.drop s.at_).toArray⟩ k;clear hm hF rc;go_wp2;go_ret2;exact⟨by simp,e.out⟩
theorem own_lt{w:World}{e:TypeId}{size n:Nat}{v:Value}{xs:List Value}(h:w.ownsRow 0 e size v n xs):∀k,v.ownBlock=some k→k<w.heap.size:=by
 intro k hk;rcases h.2 with⟨rfl,_⟩|⟨r,a,b,rfl,_,hr,_⟩
 ·cases hk
 ·injection hk with hk;subst hk;exact lt_heap hr
theorem newAt0(w:World)(A:Obj):(w.alloc A).heap[w.heap.size]? =some A:=by unfold World.alloc;exact Array.getElem?_push_size
theorem Zbv:(Tryz.prog.info? 55).map (fun i=>(i.zero,i.size,i.bytes))=some (some (.agg #[.int .i64 0,.string ByteArray.empty]),2,24):=by kernel_rfl
theorem Zch(l:List (Nat×List UInt8))(k:Nat)(t:List UInt8):mkC (l++[(k,t)])=mkC l++[.int .i64 k,.string ⟨t.toArray⟩]:=by simp[mkC]
def Zf0(S:Nat→Prop)(v:Value):Nat→Prop:=fun k=>S k∨v.ownBlock=some k
section
variable {b:Nat} {l:List UInt8} {s:RxS} {S:Nat→Prop} {cv mv v':Value} {w W0 w3:World}
theorem Br.pushM(h:Br b l s S cv mv w)(f:Fr nob w W0)(hap:Appd 1 mv v' W0 w3){t:List UInt8}
 (hown:w3.ownsRow 0 55 2 v' (s.marks.length+1) (mkC s.marks++[.int .i64 s.at_,.string ⟨t.toArray⟩])):
 (w3.cell? ⟨b,4,none⟩=some mv∧w3.frozen? ⟨b,4,none⟩=false)∧Rdg b l (s.mark t) (Zf0 S v') (w3.setCell ⟨b,4,none⟩ v')∧Stp S w (Zf0 S v') (w3.setCell ⟨b,4,none⟩ v'):=by
 have h0:=h.on f;have a:=hap.fr.heap h0.blk (fun e=>(h.nm b e).1 rfl);have i:=f.size;have hb:=lt_heap h.blk;have g:=ownsRow_fr h0.cl hap.fr (fun k hk e=>h.ne k hk e);have d:=(Fr.refl (fun k=>k=b) w3).setCell (p:=⟨b,4,none⟩) (fun _=>rfl) v';have c:v'.ownBlock≠some b:=fun e=>by
  rcases hap.old b e with h1|h1
  ·exact(h.nm b h1).1 rfl
  ·omega
 refine⟨⟨cell_at a rfl,unfrozen_at a 4⟩,⟨cv,v',by have:=Za a 4 v';simpa[RxS.mark]using this,ownsRow_fr g d (fun k hk e=>(h.nc k hk).1 e),?_,fun k hk=>⟨(h.nc k hk).1,.inl (h.nc k hk).2⟩,fun k hk=>⟨fun e=>c (by rw[←e];exact hk),.inr hk⟩,?_,.inl h.me⟩,?_,?_,?_⟩
 ·have:=ownsRow_fr hown d (fun k hk e=>c (by rw[←e];exact hk));unfold OwM;simp only[RxS.mark,List.length_append,List.length_singleton,Zch];exact this
 ·intro k hk e;rcases hap.old k e with h1|h1
  ·exact h.ne k hk h1
  ·have:=own_lt h.cl k hk;omega
 ·exact(f.any.trans (hap.fr.mono (T:=S) fun k _ hk=>(h.nm k hk).2) (fun _ _ x=>x)).setCell (p:=⟨b,4,none⟩) (fun _=>h.me) v'
 ·intro k hk hx;rcases hx with hx|hx
  ·exact hx
  ·rcases hap.old k hx with h1|h1
   ·exact(h.nm k h1).2
   ·omega
 ·intro hl k hk;have hz:(w3.setCell ⟨b,4,none⟩ v').heap.size=w3.heap.size:=by simp[World.setCell]
  rw[hz];rcases hk with hk|hk
  ·have:=hl k hk;have:=hap.fr.size;omega
  ·exact own_lt hown k hk
theorem Br.pushC(h:Br b l s S cv mv w)(f:Fr nob w W0)(hap:Appd 1 cv v' W0 w3){n:Nat}
 (hown:w3.ownsRow 0 3 1 v' (s.closed.length+1) ((s.closed.map fun(n:Nat)=>Value.int .i64 n)++[.int .i64 n])):
 (w3.cell? ⟨b,3,none⟩=some cv∧w3.frozen? ⟨b,3,none⟩=false)∧Rdg b l {s with closed:=s.closed++[n]} (Zf0 S v') (w3.setCell ⟨b,3,none⟩ v')∧Stp S w (Zf0 S v') (w3.setCell ⟨b,3,none⟩ v'):=by
 have h0:=h.on f;have a:=hap.fr.heap h0.blk (fun e=>(h.nc b e).1 rfl);have i:=f.size;have hb:=lt_heap h.blk;have g:=ownsRow_fr h0.ma hap.fr (fun k hk e=>h.ne k e hk);have d:=(Fr.refl (fun k=>k=b) w3).setCell (p:=⟨b,3,none⟩) (fun _=>rfl) v';have c:v'.ownBlock≠some b:=fun e=>by
  rcases hap.old b e with h1|h1
  ·exact(h.nc b h1).1 rfl
  ·omega
 refine⟨⟨cell_at a rfl,unfrozen_at a 3⟩,⟨v',mv,by have:=Za a 3 v';simpa using this,?_,ownsRow_fr g d (fun k hk e=>(h.nm k hk).1 e),fun k hk=>⟨fun e=>c (by rw[←e];exact hk),.inr hk⟩,fun k hk=>⟨(h.nm k hk).1,.inl (h.nm k hk).2⟩,?_,.inl h.me⟩,?_,?_,?_⟩
 ·have:=ownsRow_fr hown d (fun k hk e=>c (by rw[←e];exact hk));unfold OwC;simp only[List.length_append,List.length_singleton,List.map_append,List.map_cons,List.map_nil];exact this
 ·intro k hk e;rcases hap.old k hk with h1|h1
  ·exact h.ne k h1 e
  ·have:=own_lt h.ma k e;omega
 ·exact(f.any.trans (hap.fr.mono (T:=S) fun k _ hk=>(h.nc k hk).2) (fun _ _ x=>x)).setCell (p:=⟨b,3,none⟩) (fun _=>h.me) v'
 ·intro k hk hx;rcases hx with hx|hx
  ·exact hx
  ·rcases hap.old k hx with h1|h1
   ·exact(h.nc k h1).2
   ·omega
 ·intro hl k hk;have hz:(w3.setCell ⟨b,3,none⟩ v').heap.size=w3.heap.size:=by simp[World.setCell]
  rw[hz];rcases hk with hk|hk
  ·have:=hl k hk;have:=hap.fr.size;omega
  ·exact own_lt hown k hk
end
theorem Zdg{w:World}{g k:Nat}{t:List UInt8}{T:TypeId}{fr:Nat×Nat}(h:w.heap[g]? =some (.cells #[.int .i64 k,.string ⟨t.toArray⟩] T fr)):
 ∀j u,([.int .i64 k,.string ⟨t.toArray⟩]:List Value)[j]? =some u→w.cell? ((⟨g,0,none⟩:Addr).add j)=some u:=by
 intro j u hj
 match j,hj with
 |0,hj=>simp at hj;subst hj;exact cell_at h rfl
 |1,hj=>simp at hj;subst hj;exact cell_at h rfl
theorem Zf1{k:Nat}{t:List UInt8}:∀u∈([.int .i64 k,.string ⟨t.toArray⟩]:List Value),u.oneCell'=true:=by
 intro u hu;simp only[List.mem_cons,List.not_mem_nil,or_false]at hu;rcases hu with rfl|rfl<;>rfl
theorem br_mark(b:Nat)(l t:List UInt8)(s:RxS)(S:Nat→Prop)(w:World)(hm:s.marks.length≤100000)(h:Rdg b l s S w):
 Calls Tryz.prog 218 #[.pointer (some ⟨b,0,none⟩),.string ⟨t.toArray⟩] w fun x w'=>x=.returned (.tuple #[])∧∃S',Rdg b l (s.mark t) S' w'∧Stp S w S' w':=by
 obtain⟨cv,mv,h⟩:=h;obtain⟨a,c,rfl⟩:=Zb h.ma;have rb:=Zd h.blk;obtain⟨i0,hi,f,g,i⟩:=info_parts Zbv;have HB:=hid h;clear h;go_enter Tryz.func218,Tryz.ntmps218;go_wp2_with fail
 go_region_law (refine step_append_g rfl (.tmp 8) (.tmp 15) 36 rfl 55 i0 (.agg #[.int .i64 0,.string ByteArray.empty]) 2 24 Tryz.underlying36 hi f g i rfl (by decide) (.slice a s.marks.length c) s.marks.length (mkC s.marks) (by rfl) (by first|exact ownsRow_fr HB.out.ma (((Fr.refl nob w).alloc _).drew) (fun _ _ x=>x)|exact ownsRow_fr HB.out.ma (((Fr.refl nob w).drew).alloc _) (fun _ _ x=>x)) ⟨w.heap.size,0,none⟩ 1 1 [.int .i64 s.at_,.string ⟨t.toArray⟩] (by rfl) rfl (by first|exact Zdg (newAt0 w _)|exact Zdg (newAt0 w.drew _)) Zf1 (by unfold maxLen;omega) (by omega) ?_;intro v' w3 d e;obtain⟨av,j,rfl⟩:=Zb d;obtain⟨⟨pc,pf⟩,q1,q2⟩:=(by first|exact HB.out.pushM (((Fr.refl nob w).alloc _).drew) e d|exact HB.out.pushM (((Fr.refl nob w).drew).alloc _) e d);have HQ:=hid q1;have HR:=hid q2;clear d e q1 q2)
 all_goals
  go_wp2
  go_end0
  exact⟨rfl,_,HQ.out,HR.out⟩
theorem Zf2{l:List UInt8}{k m:Nat}(h:ZaQ (l.drop k) 0 0=(m,0)):Zfw l k=none:=by
 unfold Zfw;rw[h];rfl
theorem Zii{l:List UInt8}{k m c:Nat}(h:ZaQ (l.drop k) 0 0=(m,c))(hc:c≠0)(ha:ahd l (k+c) [44]=false):
 Zfw l k=if ahd l (k+c) [92,125]=false∨255<m then none else some ((m:Int),(m:Int),k+c+2):=by
 unfold Zfw;rw[h];simp only[hc,if_false,ha,Bool.false_eq_true];by_cases h1:ahd l (k+c) [92,125]=false∨255<m
 ·rw[if_pos h1,if_pos (by rcases h1 with h1|h1;exact .inl h1;exact .inr (.inl h1))]
 ·rw[if_neg h1,if_neg (by intro h2;rcases h2 with h2|h2|h2|h2;exact h1 (.inl h2);exact h1 (.inr h2);exact h1 (.inr (by omega));omega)]
theorem itvB_open{l:List UInt8}{k m c x:Nat}(h:ZaQ (l.drop k) 0 0=(m,c))(hc:c≠0)(ha:ahd l (k+c) [44]=true)(h2:ZaQ (l.drop (k+c+1)) 0 0=(x,0)):
 Zfw l k=if ahd l (k+c+1) [92,125]=false∨255<m then none else some ((m:Int), -1,k+c+1+2):=by
 unfold Zfw;rw[h];simp only[hc,if_false,ha,if_true,h2,Nat.add_zero];by_cases h1:ahd l (k+c+1) [92,125]=false∨255<m
 ·rw[if_pos h1,if_pos (by rcases h1 with h1|h1;exact .inl h1;exact .inr (.inl h1))]
 ·rw[if_neg h1,if_neg (by intro h2;rcases h2 with h2|h2|h2|h2;exact h1 (.inl h2);exact h1 (.inr h2);omega;omega)]
theorem itvB_two{l:List UInt8}{k m c x d:Nat}(h:ZaQ (l.drop k) 0 0=(m,c))(hc:c≠0)(ha:ahd l (k+c) [44]=true)(h2:ZaQ (l.drop (k+c+1)) 0 0=(x,d))(hd:d≠0):
 Zfw l k=if ahd l (k+c+1+d) [92,125]=false∨255<m∨255<x∨x<m then none else some ((m:Int),(x:Int),k+c+1+d+2):=by
 unfold Zfw;rw[h];simp only[hc,if_false,ha,if_true,h2,hd];by_cases h1:ahd l (k+c+1+d) [92,125]=false∨255<m∨255<x∨x<m
 ·rw[if_pos h1,if_pos (by rcases h1 with h1|h1|h1|h1;exact .inl h1;exact .inr (.inl h1);exact .inr (.inr (.inl (by omega)));exact .inr (.inr (.inr ⟨by omega,by omega⟩)))]
 ·rw[if_neg h1,if_neg (by intro h2;rcases h2 with h2|h2|h2|h2;exact h1 (.inl h2);exact h1 (.inr (.inl h2));exact h1 (.inr (.inr (.inl (by omega))));exact h1 (.inr (.inr (.inr (by omega)))))]
theorem ahd_le{l t:List UInt8}{k:Nat}(h:ahd l k t=true)(ht:1≤t.length):k+t.length≤l.length:=by
 unfold ahd at h;rw[List.isPrefixOf_iff_prefix]at h;have:=h.length_le;rw[List.length_drop]at this;omega
theorem Zdh(l:List UInt8)(k:Nat)(h:k≤l.length):(ZaQ (l.drop k) 0 0).2≤3∧(ZaQ (l.drop k) 0 0).1<1000∧k+(ZaQ (l.drop k) 0 0).2≤l.length:=by
 obtain⟨h1,h2,_,h4⟩:=Zkq (l.drop k) 0 0 (by omega) (by decide);rw[List.length_drop]at h4;refine⟨h1,Nat.lt_of_lt_of_le h2 (by have:=Zkr h1;unfold p10 at this;exact this),by omega⟩
def Zpv(b:Nat)(l:List UInt8)(s:RxS)(S:Nat→Prop)(w:World)(p:Nat):Option (Int×Int×Nat)→Ending→World→Prop
 |none,x,w'=>x=.panicked (Zkp 7 p)∧Stp S w S w'
 |some (m,n,k),x,w'=>x=.returned (.tuple #[.int .i64 m,.int .i64 n])∧Rdg b l (s.to k) S w'∧Stp S w S w'
theorem Zhh(b:Nat)(l:List UInt8)(s:RxS)(S:Nat→Prop)(w:World)(p:Nat)(hl:l.length≤100000)(ha:s.at_≤l.length)(h:Rdg b l s S w):
 Calls Tryz.prog 257 #[.pointer (some ⟨b,0,none⟩),.int .i64 (p:Nat)] w fun x w'=>Zpv b l s S w p (Zfw l s.at_) x w':=by
 obtain⟨t,u,v⟩:=Zdh l s.at_ ha;have hN:=ZfZ b l s S w hl ha h;clear h;obtain⟨m,c,hM⟩:∃m c,ZaQ (l.drop s.at_) 0 0=(m,c):=⟨_,_,rfl⟩;rw[hM]at hN t u v;simp only at hN t u v;obtain⟨I,hI⟩:∃I,Zfw l s.at_=I:=⟨_,rfl⟩;rw[hI];have HM:=hid hM;have HI:=hid hI;clear hM hI;go_enter Tryz.func257,Tryz.ntmps257;go_wp2_with fail;refine hN.mono ?_;rintro e w1 ⟨rfl,r1,t1⟩;have R1:=hid r1;have T1:=hid t1;clear r1 t1 hN;by_cases hc:c=0
 ·subst hc;have hI:=HI.out;rw[Zf2 HM.out]at hI;subst hI;go_wp2_with(go_at_call 231;refine(br_fail 7 p _).mono ?_;rintro e w' ⟨rfl,rfl⟩);exact⟨rfl,rfl,T1.out⟩
 ·have A:decide (0<c)=true:=by simp;omega
  have hT:=ZbN b l [44] (s.go c) S w1 hl (by decide) (by show s.at_+c≤_;omega) R1.out;rw[show(s.go c).at_=s.at_+c from rfl]at hT;have HC:=hid hc;have D:¬(m:Int)<m:=by omega
  have C:(0:Int)≤m:=by omega
  clear hc;cases hA:ahd l (s.at_+c) [44]with
  |false=>
   have hI:=HI.out;rw[Zii HM.out HC.out hA]at hI;rw[hA]at hT;simp only[Bool.false_eq_true,if_false]at hT;have q:=hid hT;clear hT hA;go_wp2_with(go_at_call 229;(with_reducible refine(q.out).mono ?_);rintro e w2 ⟨rfl,r2,t2⟩;have R2:=hid r2;have T2:=hid t2;clear r2 t2);have i:=ZbN b l [92,125] (s.go c) S w2 hl (by decide) (by show s.at_+c≤_;omega) R2.out;rw[show(s.go c).at_=s.at_+c from rfl]at i;cases hE:ahd l (s.at_+c) [92,125]with
   |false=>
    rw[if_pos (.inl hE)]at hI;subst hI;rw[hE]at i;have j:=hid i;clear i hE;go_wp2_with(first|(go_at_call 229;(with_reducible refine(j.out).mono ?_);rintro e w3 ⟨rfl,r3,t3⟩;have R3:=hid r3;have T3:=hid t3;clear r3 t3)|(go_at_call 231;refine(br_fail 7 p _).mono ?_;rintro e w' ⟨rfl,rfl⟩));exact⟨rfl,rfl,(T1.out.trans T2.out).trans T3.out⟩
   |true=>
    have k:=hid hE;rw[hE]at i;simp only[if_true]at i;have j:=hid i;clear i hE;by_cases f:255<m
    ·rw[if_pos (.inr f)]at hI;subst hI;go_wp2_with(first|(go_at_call 229;(with_reducible refine(j.out).mono ?_);rintro e w3 ⟨rfl,r3,t3⟩;have R3:=hid r3;have T3:=hid t3;clear r3 t3)|(go_at_call 231;refine(br_fail 7 p _).mono ?_;rintro e w' ⟨rfl,rfl⟩));exact⟨rfl,rfl,(T1.out.trans T2.out).trans T3.out⟩
    ·rw[if_neg (by rintro(h|h);rw[k.out]at h;cases h;exact f h)]at hI;subst hI;go_wp2_with(go_at_call 229;(with_reducible refine(j.out).mono ?_);rintro e w3 ⟨rfl,r3,t3⟩;have R3:=hid r3;have T3:=hid t3;clear r3 t3);go_ret2;exact⟨rfl,R3.out,(T1.out.trans T2.out).trans T3.out⟩
  |true=>
   have o:=ahd_le hA (by decide);simp only[List.length_singleton]at o;rw[hA]at hT;simp only[if_true]at hT;have HA:=hid hA;have q:=hid hT;clear hT hA;obtain⟨k1,k2,k3⟩:=Zdh l (s.at_+c+1) o;obtain⟨x,d,hX⟩:∃x d,ZaQ (l.drop (s.at_+c+1)) 0 0=(x,d):=⟨_,_,rfl⟩;rw[hX]at k1 k2 k3;simp only at k1 k2 k3;have HX:=hid hX;clear hX;have E:(0:Int)≤x:=by omega
   go_wp2_with(go_at_call 229;(with_reducible refine(q.out).mono ?_);rintro e w2 ⟨rfl,r2,t2⟩;have R2:=hid r2;have T2:=hid t2;clear r2 t2);have r:=ZfZ b l ((s.go c).go 1) S w2 hl (by show s.at_+c+1≤_;omega) R2.out;rw[show((s.go c).go 1).at_=s.at_+c+1 from rfl,HX.out]at r;have j:=hid r;clear r;by_cases hd:d=0
   ·subst hd;have hI:=HI.out;go_wp2_with(go_at_call 265;(with_reducible refine(j.out).mono ?_);rintro e w3 ⟨rfl,r3,t3⟩;have R3:=hid r3;have T3:=hid t3;clear r3 t3);rw[itvB_open HM.out HC.out HA.out HX.out]at hI;have a:=ZbN b l [92,125] (((s.go c).go 1).go 0) S w3 hl (by decide) (by show s.at_+c+1+0≤_;omega) R3.out;rw[show(((s.go c).go 1).go 0).at_=s.at_+c+1 from rfl]at a;cases hE:ahd l (s.at_+c+1) [92,125]with
    |false=>
     rw[if_pos (.inl hE)]at hI;subst hI;rw[hE]at a;have g:=hid a;clear a hE;go_wp2_with(first|(go_at_call 229;(with_reducible refine(g.out).mono ?_);rintro e w4 ⟨rfl,r4,t4⟩;have R4:=hid r4;have T4:=hid t4;clear r4 t4)|(go_at_call 231;refine(br_fail 7 p _).mono ?_;rintro e w' ⟨rfl,rfl⟩));exact⟨rfl,rfl,((T1.out.trans T2.out).trans T3.out).trans T4.out⟩
    |true=>
     have k:=hid hE;rw[hE]at a;simp only[if_true]at a;have g:=hid a;clear a hE;by_cases f:255<m
     ·rw[if_pos (.inr f)]at hI;subst hI;go_wp2_with(first|(go_at_call 229;(with_reducible refine(g.out).mono ?_);rintro e w4 ⟨rfl,r4,t4⟩;have R4:=hid r4;have T4:=hid t4;clear r4 t4)|(go_at_call 231;refine(br_fail 7 p _).mono ?_;rintro e w' ⟨rfl,rfl⟩));exact⟨rfl,rfl,((T1.out.trans T2.out).trans T3.out).trans T4.out⟩
     ·rw[if_neg (by rintro(h|h);rw[k.out]at h;cases h;exact f h)]at hI;subst hI;go_wp2_with(go_at_call 229;(with_reducible refine(g.out).mono ?_);rintro e w4 ⟨rfl,r4,t4⟩;have R4:=hid r4;have T4:=hid t4;clear r4 t4);go_ret2;exact⟨rfl,R4.out,((T1.out.trans T2.out).trans T3.out).trans T4.out⟩
   ·have hI:=HI.out;rw[itvB_two HM.out HC.out HA.out HX.out hd]at hI;have B:decide (0<d)=true:=by simp;omega
    go_wp2_with(go_at_call 265;(with_reducible refine(j.out).mono ?_);rintro e w3 ⟨rfl,r3,t3⟩;have R3:=hid r3;have T3:=hid t3;clear r3 t3);have a:=ZbN b l [92,125] (((s.go c).go 1).go d) S w3 hl (by decide) (by show s.at_+c+1+d≤_;omega) R3.out;rw[show(((s.go c).go 1).go d).at_=s.at_+c+1+d from rfl]at a;clear hd;cases hE:ahd l (s.at_+c+1+d) [92,125]with
    |false=>
     rw[if_pos (.inl hE)]at hI;subst hI;rw[hE]at a;have g:=hid a;clear a hE;go_wp2_with(first|(go_at_call 229;(with_reducible refine(g.out).mono ?_);rintro e w4 ⟨rfl,r4,t4⟩;have R4:=hid r4;have T4:=hid t4;clear r4 t4)|(go_at_call 231;refine(br_fail 7 p _).mono ?_;rintro e w' ⟨rfl,rfl⟩));exact⟨rfl,rfl,((T1.out.trans T2.out).trans T3.out).trans T4.out⟩
    |true=>
     have k:=hid hE;rw[hE]at a;simp only[if_true]at a;have g:=hid a;clear a hE;by_cases f:255<m
     ·rw[if_pos (.inr (.inl f))]at hI;subst hI;go_wp2_with(first|(go_at_call 229;(with_reducible refine(g.out).mono ?_);rintro e w4 ⟨rfl,r4,t4⟩;have R4:=hid r4;have T4:=hid t4;clear r4 t4)|(go_at_call 231;refine(br_fail 7 p _).mono ?_;rintro e w' ⟨rfl,rfl⟩));exact⟨rfl,rfl,((T1.out.trans T2.out).trans T3.out).trans T4.out⟩
     ·by_cases n:255<x
      ·rw[if_pos (.inr (.inr (.inl n)))]at hI;subst hI;go_wp2_with(first|(go_at_call 229;(with_reducible refine(g.out).mono ?_);rintro e w4 ⟨rfl,r4,t4⟩;have R4:=hid r4;have T4:=hid t4;clear r4 t4)|(go_at_call 231;refine(br_fail 7 p _).mono ?_;rintro e w' ⟨rfl,rfl⟩));exact⟨rfl,rfl,((T1.out.trans T2.out).trans T3.out).trans T4.out⟩
      ·by_cases y:x<m
       ·rw[if_pos (.inr (.inr (.inr y)))]at hI;subst hI;have z:(x:Int)<m:=by omega
        go_wp2_with(first|(go_at_call 229;(with_reducible refine(g.out).mono ?_);rintro e w4 ⟨rfl,r4,t4⟩;have R4:=hid r4;have T4:=hid t4;clear r4 t4)|(go_at_call 231;refine(br_fail 7 p _).mono ?_;rintro e w' ⟨rfl,rfl⟩));exact⟨rfl,rfl,((T1.out.trans T2.out).trans T3.out).trans T4.out⟩
       ·rw[if_neg (by rintro(h|h|h|h);rw[k.out]at h;cases h;exact f h;exact n h;exact y h)]at hI;subst hI;have z:¬(x:Int)<m:=by omega
        go_wp2_with(go_at_call 229;(with_reducible refine(g.out).mono ?_);rintro e w4 ⟨rfl,r4,t4⟩;have R4:=hid r4;have T4:=hid t4;clear r4 t4);go_ret2;exact⟨rfl,R4.out,((T1.out.trans T2.out).trans T3.out).trans T4.out⟩
def prg:Alg Nd:=⟨.one,.rep,.group,.back,.start,.fin,Za2,Za3⟩
def ZbO(b:Nat)(l:List UInt8)(S O:Nat→Prop)(w:World):Out Nd→Ending→World→Prop
 | .inl (e,p),x,w'=>x=.panicked (Zkp e p)∧∃S',Stp S w S' w'
 | .inr (t,s'),x,w'=>∃i y S',x=.returned (.iface i y)∧RN (SO S' O) w' t (.iface i y)∧Rdg b l s' S' w'∧Stp S w S' w'
section
variable {α:Type} {A:Alg α} {l:List UInt8} {n:Nat} {s:RxS} {t:α}
theorem Zf3(h:ahd l s.at_ [92,43]=true):ZbW A l (n+1) s t=ZbW A l n ((s.mark [92,43]).go 2) (A.rep t 1 (-1)):=by rw[ZbW,if_pos h]
theorem ZeB(h:ahd l s.at_ [92,43]=false)(h2:ahd l s.at_ [92,63]=true):ZbW A l (n+1) s t=ZbW A l n ((s.mark [92,63]).go 2) (A.rep t 0 1):=by
 rw[ZbW,if_neg (by rw[h];decide),if_pos h2]
theorem Zij(h:ahd l s.at_ [92,43]=false)(h2:ahd l s.at_ [92,63]=false)(h3:ahd l s.at_ [92,123]=true)(h4:Zfw l (s.at_+2)=none):ZbW A l (n+1) s t=.inl (7,s.at_):=by
 rw[ZbW,if_neg (by rw[h];decide),if_neg (by rw[h2];decide),if_pos h3,h4]
theorem ZeC(h:ahd l s.at_ [92,43]=false)(h2:ahd l s.at_ [92,63]=false)(h3:ahd l s.at_ [92,123]=true){m x:Int}{k:Nat}(h4:Zfw l (s.at_+2)=some (m,x,k)):
 ZbW A l (n+1) s t=ZbW A l n (s.to k) (A.rep t m x):=by
 rw[ZbW,if_neg (by rw[h];decide),if_neg (by rw[h2];decide),if_pos h3,h4]
theorem repS_star(h:ahd l s.at_ [92,43]=false)(h2:ahd l s.at_ [92,63]=false)(h3:ahd l s.at_ [92,123]=false)(h4:ahd l s.at_ [42]=true):ZbW A l (n+1) s t=ZbW A l n (s.go 1) (A.rep t 0 (-1)):=by
 rw[ZbW,if_neg (by rw[h];decide),if_neg (by rw[h2];decide),if_neg (by rw[h3];decide),if_pos h4]
theorem Zik(h:ahd l s.at_ [92,43]=false)(h2:ahd l s.at_ [92,63]=false)(h3:ahd l s.at_ [92,123]=false)(h4:ahd l s.at_ [42]=false):ZbW A l (n+1) s t=.inr (t,s):=by
 rw[ZbW,if_neg (by rw[h];decide),if_neg (by rw[h2];decide),if_neg (by rw[h3];decide),if_neg (by rw[h4];decide)]
end
theorem Zks{l:List UInt8}{k:Nat}{m x:Int}{j:Nat}(hk:k≤l.length)(h:Zfw l k=some (m,x,j)):k+3≤j∧j≤l.length∧0≤m∧m≤255∧ -1≤x∧x≤255:=by
 obtain⟨b1,b2,b3⟩:=Zdh l k hk;obtain⟨p,c,hM⟩:∃p c,ZaQ (l.drop k) 0 0=(p,c):=⟨_,_,rfl⟩;rw[hM]at b1 b2 b3;simp only at b1 b2 b3;by_cases hc:c=0
 ·subst hc;rw[Zf2 hM]at h;cases h
 ·cases ha:ahd l (k+c) [44]with
  |false=>
   rw[Zii hM hc ha]at h;split at h
   ·cases h
   ·next hn=>
    have he:ahd l (k+c) [92,125]=true:=by cases hq:ahd l (k+c) [92,125];exact absurd (.inl hq) hn;rfl
    have:=ahd_le he (by decide);simp only[List.length_cons,List.length_nil]at this;simp only[Option.some.injEq,Prod.mk.injEq]at h;obtain⟨rfl,rfl,rfl⟩:=h;have:¬255<p:=fun x=>hn (.inr x);omega
  |true=>
   have a:=ahd_le ha (by decide);simp only[List.length_singleton]at a;obtain⟨e1,e2,e3⟩:=Zdh l (k+c+1) a;obtain⟨y,d,hX⟩:∃y d,ZaQ (l.drop (k+c+1)) 0 0=(y,d):=⟨_,_,rfl⟩;rw[hX]at e1 e2 e3;simp only at e1 e2 e3;by_cases hd:d=0
   ·subst hd;rw[itvB_open hM hc ha hX]at h;split at h
    ·cases h
    ·next hn=>
     have he:ahd l (k+c+1) [92,125]=true:=by cases hq:ahd l (k+c+1) [92,125];exact absurd (.inl hq) hn;rfl
     have:=ahd_le he (by decide);simp only[List.length_cons,List.length_nil]at this;simp only[Option.some.injEq,Prod.mk.injEq]at h;obtain⟨rfl,rfl,rfl⟩:=h;have:¬255<p:=fun x=>hn (.inr x);omega
   ·rw[itvB_two hM hc ha hX hd]at h;split at h
    ·cases h
    ·next hn=>
     have he:ahd l (k+c+1+d) [92,125]=true:=by cases hq:ahd l (k+c+1+d) [92,125];exact absurd (.inl hq) hn;rfl
     have:=ahd_le he (by decide);simp only[List.length_cons,List.length_nil]at this;simp only[Option.some.injEq,Prod.mk.injEq]at h;obtain⟨rfl,rfl,rfl⟩:=h;have:¬255<p:=fun x=>hn (.inr (.inl x));have:¬255<y:=fun x=>hn (.inr (.inr (.inl x)));omega
theorem RN.rep{S:Nat→Prop}{w:World}{t:Nd}{v:Value}(h:RN S w t v)(m x:Int):RN S w (.rep t m x) (.iface 139 (.agg #[v,.int .i64 m,.int .i64 x])):=by
 rw[RN.eq_def];exact⟨v,rfl,h⟩
def Zpw(b:Nat)(l:List UInt8)(S O:Nat→Prop)(w:World)(F:Out Nd)(n:Nat)(v:Value)(wr:World):Prop:=
 ∃i y s t S',v=.iface i y∧RN (SO S' O) wr t v∧Rdg b l s S' wr∧Stp S w S' wr∧l.length<n+s.at_∧s.at_≤l.length∧s.marks.length≤s.at_∧ZbW prg l n s t=F
theorem ZbP(b:Nat)(l:List UInt8)(s:RxS)(t:Nd)(i:TypeId)(y:Value)(S O:Nat→Prop)(w:World)(hl:l.length≤100000)(ha:s.at_≤l.length)(hm:s.marks.length≤s.at_)(hv:RN (SO S O) w t (.iface i y))(h:Rdg b l s S w):
 Calls Tryz.prog 233 #[.pointer (some ⟨b,0,none⟩),.iface i y] w fun x w'=>ZbO b l S O w (ZbW prg l (l.length+1) s t) x w':=by
 obtain⟨F,hF⟩:∃F,ZbW prg l (l.length+1) s t=F:=⟨_,rfl⟩;rw[hF];have HF:=hid hF;have HV:=hid hv;have HH:=hid h;clear hF hv h;go_enter Tryz.func233,Tryz.ntmps233;go_wp2_with fail
 go_loopg [1] (l.length+1) (fun n u wr=>Zpw b l S O w F n u wr)
 case atStart=>exact⟨i,y,s,t,S,rfl,HV.out,HH.out,Stp.refl _ _,by omega,ha,hm,HF.out⟩
 case round=>
  clear HF HV HH ha hm;clear s t;obtain⟨i,y,s,t,S1,rfl,hv,hr,A,hn,ha,hm,hF⟩:=hrel;obtain⟨m,rfl⟩:∃m,gk=m+1:=⟨gk-1,by omega⟩;have h1:=Zcg b l [92,43] s S1 wr (by omega) (by decide) ha hr;obtain⟨cv,mv,hB⟩:=hr;obtain⟨⟨c0,c1,c2,c3,c4⟩,d0,d1,d2,d3,d4⟩:=Zd hB.blk _ (Fr.refl _ _);have HV:=hid hv;have HB:=hid hB;have g:=hid A;have HF:=hid hF;have HA:=hid (fun(tt:List UInt8) (w':World) (f:Fr nob wr w') (ht:tt.length≤1000)=>Zcg b l tt s S1 w' (by omega) (by omega) ha ⟨cv,mv,hB.on f⟩);have HT:=hid (fun(tt:List UInt8) (w':World) (f:Fr nob wr w') (ht:tt.length≤1000)=>ZbN b l tt s S1 w' hl ht ha ⟨cv,mv,hB.on f⟩);clear hv hB A hF h1;cases e1:ahd l s.at_ [92,43]with
  |true=>
   have d:=ahd_le e1 (by decide);simp only[List.length_cons,List.length_nil]at d;have hF:=HF.out;rw[Zf3 e1]at hF;have H1:=hid (HA.out [92,43] wr (Fr.refl _ _) (by decide));rw[e1]at H1;have a:=hid hF;clear hF e1 HF;go_wp2_with fail;refine(H1.out).mono ?_;rintro e w1 ⟨rfl,f1⟩;have F1:=hid f1;clear f1;go_wp2_with fail;refine(br_mark b l [92,43] s S1 w1 (by omega) ⟨cv,mv,HB.out.on F1.out⟩).mono ?_;rintro e w5 ⟨rfl,S5,⟨v,z,c⟩,r⟩;obtain⟨⟨_,k1,_⟩,_,k2,_⟩:=Zd c.blk _ (Fr.refl _ _);rw[show(s.mark [92,43]).at_=s.at_ from rfl]at k1;have j:=hid c;have o:=hid ((Stp.of F1.out).trans r);clear c r;go_wp2;go_roundg m
   case measure=>omega
   case rel=>
    have p:=j.out.stp 1 (.int .i64 ((s.at_:Int)+2));refine⟨_,_,(s.mark [92,43]).go 2,.rep t 1 (-1),S5,rfl,((o.out.trans p).rn HV.out).rep _ _,⟨v,z,j.out.turned 1 _ _ (by simp[RxS.go,RxS.mark]) rfl rfl⟩,(g.out.trans o.out).trans p,?_,?_,?_,a.out⟩
    ·show l.length<m+(s.at_+2);omega
    ·show s.at_+2≤_;omega
    ·show(s.marks++[_]).length≤s.at_+2;simp;omega
  |false=>
   have H1:=hid (HA.out [92,43] wr (Fr.refl _ _) (by decide));rw[e1]at H1;go_wp2_with fail;refine(H1.out).mono ?_;rintro e w1 ⟨rfl,f1⟩;have F1:=hid f1;clear f1;cases e2:ahd l s.at_ [92,63]with
   |true=>
    have d:=ahd_le e2 (by decide);simp only[List.length_cons,List.length_nil]at d;have hF:=HF.out;rw[ZeB e1 e2]at hF;have H2:=hid (HA.out [92,63] w1 F1.out (by decide));rw[e2]at H2;have a:=hid hF;clear hF e1 e2 HF;go_wp2_with fail;refine(H2.out).mono ?_;rintro e w2 ⟨rfl,f2⟩;have F2:=hid (F1.out.trans' f2);clear f2;go_wp2_with fail;refine(br_mark b l [92,63] s S1 w2 (by omega) ⟨cv,mv,HB.out.on F2.out⟩).mono ?_;rintro e w5 ⟨rfl,S5,⟨v,z,c⟩,r⟩;obtain⟨⟨_,k1,_⟩,_,k2,_⟩:=Zd c.blk _ (Fr.refl _ _);rw[show(s.mark [92,63]).at_=s.at_ from rfl]at k1;have j:=hid c;have o:=hid ((Stp.of F2.out).trans r);clear c r;go_wp2;go_roundg m
    case measure=>omega
    case rel=>
     have p:=j.out.stp 1 (.int .i64 ((s.at_:Int)+2));refine⟨_,_,(s.mark [92,63]).go 2,.rep t 0 1,S5,rfl,((o.out.trans p).rn HV.out).rep _ _,⟨v,z,j.out.turned 1 _ _ (by simp[RxS.go,RxS.mark]) rfl rfl⟩,(g.out.trans o.out).trans p,?_,?_,?_,a.out⟩
     ·show l.length<m+(s.at_+2);omega
     ·show s.at_+2≤_;omega
     ·show(s.marks++[_]).length≤s.at_+2;simp;omega
   |false=>
    have H2:=hid (HA.out [92,63] w1 F1.out (by decide));rw[e2]at H2;go_wp2_with fail;refine(H2.out).mono ?_;rintro e w2 ⟨rfl,f2⟩;have F2:=hid (F1.out.trans' f2);clear f2;cases e3:ahd l s.at_ [92,123]with
    |true=>
     have d:=ahd_le e3 (by decide);simp only[List.length_cons,List.length_nil]at d;have H3:=hid (HT.out [92,123] w2 F2.out (by decide));rw[e3]at H3;go_wp2_with fail;refine(H3.out).mono ?_;rintro e w3 ⟨rfl,r3,t3⟩;have hI:=Zhh b l (s.go 2) S1 w3 s.at_ hl (by show s.at_+2≤_;omega) r3;rw[show(s.go 2).at_=s.at_+2 from rfl]at hI;have T3:=hid ((Stp.of F2.out).trans t3);clear r3 t3;cases e4:Zfw l (s.at_+2)with
     |none=>
      have hF:=HF.out;rw[Zij e1 e2 e3 e4]at hF;rw[e4]at hI;have HI:=hid hI;subst hF;clear e1 e2 e3 e4 HF hI;go_wp2_with fail;refine(HI.out).mono ?_;rintro e w4 ⟨rfl,t4⟩;exact⟨rfl,rfl,S1,(g.out.trans T3.out).trans t4⟩
     |some q=>
      obtain⟨mn,mx,k⟩:=q;have hF:=HF.out;rw[ZeC e1 e2 e3 e4]at hF;rw[e4]at hI;obtain⟨g1,g2,g3,g4,g5,g6⟩:=Zks (by omega) e4;have HI:=hid hI;have a:=hid hF;clear e1 e2 e3 e4 HF hI hF;go_wp2_with fail;refine(HI.out).mono ?_;rintro e w4 ⟨rfl,r4,t4⟩;have R4:=hid r4;have T4:=hid (T3.out.trans t4);clear r4 t4;go_wp2;go_roundg m
      case measure=>omega
      case rel=>
       refine⟨_,_,s.to k,.rep t mn mx,S1,rfl,(T4.out.rn HV.out).rep _ _,R4.out,g.out.trans T4.out,?_,?_,?_,a.out⟩
       ·show l.length<m+k;omega
       ·show k≤_;omega
       ·show s.marks.length≤k;omega
    |false=>
     have H3:=hid (HT.out [92,123] w2 F2.out (by decide));rw[e3]at H3;go_wp2_with fail;refine(H3.out).mono ?_;rintro e w3 ⟨rfl,r3,t3⟩;simp only[Bool.false_eq_true,if_false]at r3;have h4:=ZbN b l [42] s S1 w3 hl (by decide) ha r3;have T3:=hid ((Stp.of F2.out).trans t3);clear r3 t3;cases e4:ahd l s.at_ [42]with
     |true=>
      have d:=ahd_le e4 (by decide);simp only[List.length_singleton]at d;have hF:=HF.out;rw[repS_star e1 e2 e3 e4]at hF;rw[e4]at h4;have H4:=hid h4;have a:=hid hF;clear e1 e2 e3 e4 HF h4 hF;go_wp2_with fail;refine(H4.out).mono ?_;rintro e w4 ⟨rfl,r4,t4⟩;have R4:=hid r4;have T4:=hid (T3.out.trans t4);clear r4 t4;go_wp2;go_roundg m
      case measure=>omega
      case rel=>
       refine⟨_,_,s.go 1,.rep t 0 (-1),S1,rfl,(T4.out.rn HV.out).rep _ _,R4.out,g.out.trans T4.out,?_,?_,?_,a.out⟩
       ·show l.length<m+(s.at_+1);omega
       ·show s.at_+1≤_;omega
       ·show s.marks.length≤s.at_+1;omega
     |false=>
      have hF:=HF.out;rw[Zik e1 e2 e3 e4]at hF;rw[e4]at h4;have H4:=hid h4;subst hF;clear e1 e2 e3 e4 HF h4;go_wp2_with fail;refine(H4.out).mono ?_;rintro e w4 ⟨rfl,r4,t4⟩;simp only[Bool.false_eq_true,if_false]at r4;have R4:=hid r4;have T4:=hid (T3.out.trans t4);clear r4 t4;go_wp2;go_ret;exact⟨_,_,S1,rfl,T4.out.rn HV.out,R4.out,g.out.trans T4.out⟩
theorem Zil(w:World):Calls Tryz.prog 273 #[] w fun e w'=>e=.returned (ZcR ZbX)∧Fr nob w w':=by
 have hc:=fun w=>Zb5 ⟨#[115,112,97,99,101]⟩ _ rfl w;obtain⟨s,hs⟩:∃s,ZaD (Zak ⟨#[115,112,97,99,101]⟩)=s:=⟨_,rfl⟩;unfold ZbX;rw[hs]at hc⊢;have HC:=hid hc;clear hc hs;go_enter Tryz.func273,Tryz.ntmps273;go_wp2_with fail;refine(HC.out _).mono ?_;rintro e w1 ⟨rfl,f1⟩;have f:=f1.heap (newAt0 w _) (fun x=>x);have rr:=Zl f;have HB:=hid f;have F1:=hid f1;clear f1 f;go_wp2;have g:=Ze (w:=w1) (.cells #[.int .u64 s.a,.int .u64 s.b,.int .u64 s.c,.int .u64 s.d] 132) HB.out;exact bodyPost_ret (Zs (s:=s) rfl rfl (setFour_heap g _ _ _ _)) rfl ⟨rfl,Zp ((((Fr.refl nob w).alloc _).trans' F1.out).alloc _) (Nat.le_refl _) _ _ _ _⟩
theorem q4_on{w w':World}{b:Nat}{s:S4}(h:Q4 w b s)(f:Fr nob w w'):Q4 w' b s:=⟨f.cell h.1 (fun x=>x),f.cell h.2.1 (fun x=>x),f.cell h.2.2.1 (fun x=>x),f.cell h.2.2.2 (fun x=>x)⟩
theorem q4_four{w w':World}{b c:Nat}{s:S4}(h:Q4 w b s)(f:Fr nob w w')(hne:b≠c)(v0 v1 v2 v3:Value):Q4 (ZaG w' c v0 v1 v2 v3) b s:=by
 have h':=q4_on h f;have g:=ZS w' c v0 v1 v2 v3;exact⟨g.cell h'.1 hne,g.cell h'.2.1 hne,g.cell h'.2.2.1 hne,g.cell h'.2.2.2 hne⟩
theorem ZnW(w:World)(T:TypeId):Calls Tryz.prog 256 #[.slice (some ⟨w.heap.size,0,none⟩) 1 1] (w.alloc (.cells #[.int .u8 95] T)) fun e w'=>e=.returned (ZcR (spn 95 95))∧Fr nob (w.alloc (.cells #[.int .u8 95] T)) w':=Zb6 95 w T
theorem Zkt(w:World):Calls Tryz.prog 272 #[] w fun e w'=>e=.returned (ZcR Zdz)∧Fr nob w w':=by
 have hc:=fun w=>Zb5 ⟨#[97,108,110,117,109]⟩ _ rfl w;obtain⟨s,hs⟩:∃s,ZaD (Zak ⟨#[97,108,110,117,109]⟩)=s:=⟨_,rfl⟩;unfold Zdz;rw[hs]at hc⊢;obtain⟨u,hu⟩:∃u,spn 95 95=u:=⟨_,rfl⟩;have ho:=ZnW;rw[hu]at ho⊢;have HO:=hid ho;have HC:=hid hc;clear hc hs hu ho;obtain⟨x,hx⟩:∃x,s.or u=x:=⟨_,rfl⟩;have f:=fun w=>ZfK s u w;rw[hx]at f⊢;have j:=hid f;clear f hx;go_enter Tryz.func272,Tryz.ntmps272;go_wp2_with fail;refine(HC.out _).mono ?_;rintro e w1 ⟨rfl,f1⟩;have h:=f1.heap (newAt0 w _) (fun x=>x);have HB:=hid h;have F1:=hid f1;clear f1 h;go_wp2_with fail;have i:=newAt0 w1 (.cells #[.int .u64 s.a,.int .u64 s.b,.int .u64 s.c,.int .u64 s.d] 132);have hq:Q4 (w1.alloc (.cells #[.int .u64 s.a,.int .u64 s.b,.int .u64 s.c,.int .u64 s.d] 132)) w1.heap.size s:=Q4.of i;obtain⟨w2,g⟩:∃w2,w2=w1.alloc (.cells #[.int .u64 s.a,.int .u64 s.b,.int .u64 s.c,.int .u64 s.d] 132):=⟨_,rfl⟩
 rw[←g]at hq⊢;have F2:=hid (show Fr nob w1 w2 by rw[g];exact(Fr.refl _ _).alloc _);have HQ:=hid hq;clear i hq g;have hz:=F2.out.heap HB.out (fun x=>x);have rr:=Zl hz;have HZ:=hid hz;clear hz;have k:w1.heap.size≠w.heap.size:=by have:=F1.out.size;simp at this;omega
 go_region_held3 (fun w'=>Q4 w' w1.heap.size s) (first|(with_reducible exact HQ.out)|(with_reducible exact q4_on HQ.out ((Fr.refl nob w2).drew))|(with_reducible exact q4_on HQ.out (((Fr.refl nob w2).drew).alloc _))|(with_reducible exact q4_on HQ.out ((Fr.refl nob w2).alloc _))|(with_reducible exact q4_on HQ.out (((Fr.refl nob w2).alloc _).drew))|(with_reducible exact q4_on HQ.out G2)|(with_reducible exact q4_on HQ.out G1)|(exact q4_four HQ.out G2 k _ _ _ _)) (first|(go_at_call 256;refine(HO.out (World.drew w2) _).mono ?_;rintro e g1 ⟨rfl,f1⟩;have G1:Fr nob w2 g1:=(by first|exact((((Fr.refl nob w2).drew).alloc _).trans' f1)|exact(((Fr.refl nob w2).alloc _).trans' f1));clear f1)|(go_at_call 264;(with_reducible refine(j.out _).mono ?_);rintro e g2 ⟨rfl,f2⟩;have G2:Fr nob w2 g2:=G1.trans' f2;clear f2))
 all_goals
  go_wp2;exact bodyPost_ret (Zs (s:=x) rfl rfl (setFour_heap (G2.heap HZ.out (fun x=>x)) _ _ _ _)) rfl ⟨rfl,Zp (((((Fr.refl nob w).alloc _).trans' F1.out).trans' F2.out).trans' G2) (Nat.le_refl _) _ _ _ _⟩
end Go.Proofs.YtkfddjopbocpkaaGreatDoor
