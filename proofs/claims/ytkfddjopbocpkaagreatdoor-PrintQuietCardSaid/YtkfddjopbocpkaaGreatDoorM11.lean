/- Lemmas of this claim. -/
import Derived.Outline
import Derived.Defers
import Derived.Recover
import Derived.Laws.Pointers
import Derived.Deep.DrawnRows
import Derived.Test.YtkfddjopbocpkaaGreatDoorM08
set_option linter.unusedVariables false
set_option linter.unusedSimpArgs false
set_option maxRecDepth 100000
set_option maxHeartbeats 4000000
namespace Go.Proofs.YtkfddjopbocpkaaGreatDoor
open Go.Lib (hid)
open Go.RowKit
def LGS(S:Nat→Prop)(g:Option Nat):Nat→Prop:=fun k=>S k∨g=some k
def OwnNS(S:Nat→Prop)(w:World)(l:List Nd)(v:Value)(g:Option Nat):Prop:=∃vs,w.ownsRow 0 26 1 v l.length vs∧VN (LGS S g) w l vs∧v.ownBlock=g
theorem OwnNS.nil(S:Nat→Prop)(w:World):OwnNS S w [] (.slice none 0 0) none:=⟨[],World.ownsRow_nil _ _ _ _,rfl,rfl⟩
theorem OwnNS.on{S:Nat→Prop}{w w':World}{l:List Nd}{v:Value}{g:Option Nat}(h:OwnNS S w l v g)(f:Fr nob w w'):OwnNS S w' l v g:=by
 obtain⟨vs,h1,h2,h3⟩:=h;exact⟨vs,ownsRow_fr h1 f (fun _ _ x=>x),h2.keep f (fun _ _ x=>x.elim) (fun _ _ x=>x),h3⟩
theorem OwnNS.shape{S:Nat→Prop}{w:World}{l:List Nd}{v:Value}{g:Option Nat}(h:OwnNS S w l v g):∃a c,v=.slice a l.length c:=by
 obtain⟨vs,h1,h2,h3⟩:=h;exact Zb h1
theorem OwnNS.sn{S:Nat→Prop}{w:World}{l:List Nd}{v:Value}{g:Option Nat}(h:OwnNS S w l v g)(hg:∀k,g=some k→¬S k):SN S w l v:=by
 obtain⟨vs,h1,h2,h3⟩:=h;exact SN.of_own h1 (h2.keep (S':=S) (Fr.refl nob w) (fun _ _ x=>x.elim) (fun _ _ x=>.inl x)) (fun k hk=>hg k (by rw[←h3];exact hk))
theorem OwnNS.lt{S:Nat→Prop}{w:World}{l:List Nd}{v:Value}{g:Option Nat}(h:OwnNS S w l v g):∀k,g=some k→k<w.heap.size:=by
 intro k hk;obtain⟨vs,a,_,hg⟩:=h;rcases a.2 with⟨rfl,_⟩|⟨r,b,c,rfl,_,hr,_⟩
 ·rw[←hg]at hk;cases hk
 ·rw[←hg]at hk;injection hk with hk;subst hk;exact lt_heap hr
theorem OwnNS.blk{S:Nat→Prop}{w:World}{l:List Nd}{v:Value}{g:Option Nat}(h:OwnNS S w l v g):v.ownBlock=g:=by
 obtain⟨_,_,_,h⟩:=h;exact h
theorem Zbu{w:World}{ops:Array Oper}{rest:List Oper}{o:Oper}{a:Act}{Q:Exit→Act→World→Prop}{S:Nat→Prop}(hgd:o.guard=none)(s x:Operand)
 (ho:o.op=.call {callee:=.builtin .append,args:= #[s,x],argTypes:= #[127,127]})
 (l m:List Nd) (v ux:Value) (g:Option Nat) (hs:a.eval s=v) (hown:OwnNS S w l v g) (hx:a.eval x=ux) (hm:SN (LGS S g) w m ux) (hb:l.length+m.length≤3000000)
 (h:∀v' w' g',OwnNS S w' (l++m) v' g'→Fr (LG g) w w'→(∀k,g'=some k→g=some k∨w.heap.size≤k)→wpList Tryz.prog ops Q rest (a.put o.dst v') w'):wpList Tryz.prog ops Q (o::rest) a w:=by
 obtain⟨i0,hi,i,p,f⟩:=info_parts Zkl;obtain⟨vs,h1,h2,h3⟩:=hown;rcases hm with⟨rfl,rfl⟩|⟨q,off,n,rfl,_,hm⟩
 ·refine wpList_plain hgd fun K hK=> ?_;have hr:=run_append_owned_none (P:=Tryz.prog) (w:=w) 0 127 o.type 26 i0 1 Tryz.underlying127 hi v l.length vs h1;unfold Oper.wp execOp;simp only[ho,resolve,invoke,builtin,Sem.run_bind,Sem.run_pure,Result.andThen_ok,List.map_toArray,List.map_cons,List.map_nil,hs,hx,hr];exact hK _ _ (h v w g (by rw[List.append_nil];exact⟨vs,h1,h2,h3⟩) (Fr.refl _ _) (fun k hk=>.inl hk))
 ·obtain⟨us,hu,ha⟩:=RNs.vals hm;have t:=hu.length;refine wpList_append_g hgd s x _ ho 26 i0 .nilIface 1 16 Tryz.underlying127 hi i p f rfl (by decide) v l.length vs hs h1 ⟨q,off,none⟩ m.length n us hx (by omega) (fun j u hj=>by have:=ha j u hj;by_cases r:j=0<;>simpa[Addr.add,r]using this) hu.cell1 (by unfold maxLen;omega) (by omega) ?_;intro v' w' c e;have b:∀k,v'.ownBlock=some k→g=some k∨w.heap.size≤k:=fun k hk=>by
   rcases e.old k hk with h|h
   ·exact .inl (by rw[←h3,h])
   ·exact .inr h
  have d:Fr (LG g) w w':=e.fr.mono fun k _ hk=>by unfold LG;rw[←h3,hk]
  refine h v' w' v'.ownBlock ⟨vs++us,by simpa using c,(VN.append h2 hu).keep d (fun _ _ x=>.inr x) (fun k hk x=>x.elim .inl (fun y=>(b k y).elim .inr (fun z=>by omega))),rfl⟩ d b
theorem onlyS_any(S:Nat→Prop)(l:List Nd)(n:Nd)(u v:Value)(w:World)(hl:l.length≤3000000)(hu:SN S w l u)(hn:RN S w n v):
 Calls Tryz.prog 228 #[u,v] w fun e w'=>∃r,e=.returned r∧RN S w' (Zd3 l n) r∧w=w':=by
 have HN:=hid hn;clear hn
 match l,hu with
 |[],hu=>
  obtain⟨a,c,rfl⟩:=hu.shape;clear hu;go_enter Tryz.func228,Tryz.ntmps228;go_wp2;go_ret;exact⟨_,rfl,by unfold Zd3;rw[RN];rfl,rfl⟩
 |[x],hu=>
  obtain⟨q,off,b,y,he,hy,hc⟩:=hu.get (k:=0) (by simp);have d:u=.slice (some ⟨q,off,none⟩) 1 b:=he;have f:w.cell? ⟨q,off,none⟩=some y:=by simpa using hc
  have HY:=hid hy;clear hu hy he hc;subst d;go_enter Tryz.func228,Tryz.ntmps228;go_wp2;go_ret;exact⟨_,rfl,HY.out,rfl⟩
 |x::y::l,hu=>
  obtain⟨a,c,rfl⟩:=hu.shape;clear hu;have h2:¬(((x::y::l).length:Nat):Int)=0:=by simp;omega
  have h3:¬(((x::y::l).length:Nat):Int)=1:=by simp;omega
  obtain⟨k,hk⟩:∃k,(x::y::l).length=k:=⟨_,rfl⟩;rw[hk]at h2 h3 hl⊢;clear hk;go_enter Tryz.func228,Tryz.ntmps228;go_wp2;go_ret;exact⟨_,rfl,HN.out,rfl⟩
def Zaz(S:Nat→Prop)(w:World)(l:List Nd)(v:Value)(wr:World):Prop:=∃g,OwnNS S wr l v g∧Fr nob w wr∧∀k,g=some k→w.heap.size≤k
theorem Zaz.nil(S:Nat→Prop)(w:World):Zaz S w [] (.slice none 0 0) w:=⟨none,OwnNS.nil S w,Fr.refl _ _,fun _ h=>by cases h⟩
theorem Zaz.on{S:Nat→Prop}{w wr w':World}{l:List Nd}{v:Value}(h:Zaz S w l v wr)(f:Fr nob wr w'):Zaz S w l v w':=by
 obtain⟨g,h1,h2,h3⟩:=h;exact⟨g,h1.on f,h2.trans' f,h3⟩
theorem Zaz.shape{S:Nat→Prop}{w wr:World}{l:List Nd}{v:Value}(h:Zaz S w l v wr):∃a c,v=.slice a l.length c:=by
 obtain⟨g,h1,h2,h3⟩:=h;exact h1.shape
theorem Zaz.fr{S:Nat→Prop}{w wr:World}{l:List Nd}{v:Value}(h:Zaz S w l v wr):Fr nob w wr:=by
 obtain⟨g,h1,h2,h3⟩:=h;exact h2
theorem Zaz.sn{S:Nat→Prop}{w wr:World}{l:List Nd}{v:Value}(h:Zaz S w l v wr)(hS:∀k,S k→k<w.heap.size):SN S wr l v:=by
 obtain⟨g,h1,h2,h3⟩:=h;exact h1.sn (fun k hk x=>by have:=h3 k hk;have:=hS k x;omega)
theorem wpList_append_btS{S:Nat→Prop}{W w:World}{ops:Array Oper}{rest:List Oper}{o:Oper}{a:Act}{Q:Exit→Act→World→Prop}(hgd:o.guard=none)(s x:Operand)
 (ho:o.op=.call {callee:=.builtin .append,args:= #[s,x],argTypes:= #[127,127]})
 (l m:List Nd) (v ux:Value) (hs:a.eval s=v) (hown:Zaz S W l v w) (hx:a.eval x=ux)
 (hm:∀g,(∀k,g=some k→W.heap.size≤k)→OwnNS S w l v g→SN (LGS S g) w m ux) (hb:l.length+m.length≤3000000)
 (h:∀v' w',Zaz S W (l++m) v' w'→wpList Tryz.prog ops Q rest (a.put o.dst v') w'):wpList Tryz.prog ops Q (o::rest) a w:=by
 obtain⟨g,h1,h2,h3⟩:=hown;refine Zbu hgd s x ho l m v ux g hs h1 hx (hm g h3 h1) hb fun v' w' g' q1 q2 q3=>h v' w' ⟨g',q1,?_,?_⟩
 ·exact h2.trans q2 (fun i hi hg=>by have:=h3 i hg;omega)
 ·intro k hk;have:=h2.size;rcases q3 k hk with h|h
  ·exact h3 k h
  ·omega
theorem SN.behindS{S:Nat→Prop}{W w:World}{m:List Nd}{u:Value}{g:Option Nat}(h:SN S W m u)(f:Fr nob W w)(hg:∀k,g=some k→W.heap.size≤k):SN (LGS S g) w m u:=
 h.keep f (fun _ _ x=>x.elim) (fun k hk x=>x.elim id (fun x=>by have:=hg k x;omega))
theorem RN.behindS{S:Nat→Prop}{W w:World}{m:Nd}{u:Value}{g:Option Nat}(h:RN S W m u)(f:Fr nob W w)(hg:∀k,g=some k→W.heap.size≤k):RN (LGS S g) w m u:=
 RN.keep f (fun _ _ x=>x.elim) (fun k hk x=>x.elim id (fun x=>by have:=hg k x;omega)) _ _ h
theorem Zaz.lt{S:Nat→Prop}{w wr:World}{l:List Nd}{v:Value}(h:Zaz S w l v wr):∀k,v.ownBlock=some k→k<wr.heap.size:=by
 obtain⟨g,h1,h2,h3⟩:=h;intro k hk;rw[h1.blk]at hk;exact h1.lt k hk
theorem joinS_any(S:Nat→Prop)(l:List Nd)(u:Value)(w:World)(hS:∀k,S k→k<w.heap.size)(hl:Nd.sizes l≤3000000)(h:SN S w l u):
 Calls Tryz.prog 224 #[u] w fun e w'=>∃r,e=.returned r∧RN S w' (Za2 l) r∧Fr nob w w':=by
 obtain⟨a,c,rfl⟩:=h.shape;have H:=hid h;clear h;have M:=Nd.length_le l;have K:=hid (Nat.le_trans (Nd.length_le (parts l)) (ZcA l));go_enter Tryz.func224,Tryz.ntmps224;go_wp2_with fail
 go_loopw [3,11] (fun s i wr=>∃k:Nat,i=.int .i64 k∧k≤l.length∧Zaz S w (parts (l.take k)) s wr) (fun _ i _=>l.length-(intOf i).toNat)
 case atStart=>exact⟨0,rfl,Nat.zero_le _,Zaz.nil S w⟩
 case round=>
  obtain⟨k,rfl,hk,hB⟩:=hrel;obtain⟨av,cv,rfl⟩:=hB.shape;have HB:=hid hB;clear hB;by_cases t:k<l.length
  ·obtain⟨q,off,L,x,he,hx,hc⟩:=(H.out.on HB.out.fr).get t;obtain⟨_,_,_,x',A,F,E⟩:=H.out.get t;obtain rfl:x=x':=by
    rw[he]at A;injection A with e1 _ _;injection e1 with e1;injection e1 with e1 e2;subst e1;subst e2;have:=HB.out.fr.cell E (fun x=>x);rw[hc]at this;injection this
   clear A E;injection he with e1 e2 e3;subst e1;subst e3;have HX:=hid hx;have C:=hid F;clear hx F e2;have d:=hid (Zjg t);have D:=hid (Nat.le_trans (Nd.length_le (parts (l.take (k+1)))) (Nat.le_trans (ZcA _) (Nd.sizes_take_le l (k+1))));go_wp2_with fail;refine(told_any2 S l[k] x _ HX.out).mono ?_;rintro e w2 ⟨y,rfl,hy,b,rfl⟩;obtain⟨n,hn⟩:∃n,l[k]=n:=⟨_,rfl⟩;rw[hn]at hy HX C d;clear hn;have B:(n.part=[]∧y=.iface 147 (.agg #[]))∨(∃m a c,n.part=m∧y=.iface 136 (.agg #[.slice a m.length c])∧SN S w m (.slice a m.length c))∨(n.part=[n]∧∃i z,y=.iface i z∧i≠147∧i≠136∧x=y):=by
    have G:=hy.kind;have f:=C.out.kind;cases n with
    |nil=>exact .inl ⟨rfl,G⟩
    |empty=>exact .inl ⟨rfl,G⟩
    |cat m=>
     obtain⟨a',c',h2,h3⟩:=f;subst h2;rcases b with h|rfl
     ·cases h
     ·exact .inr (.inl ⟨m,a',c',rfl,rfl,h3⟩)
    |one s=>subst f;rcases b with h|rfl;cases h;exact .inr (.inr ⟨rfl,_,_,rfl,by decide,by decide,rfl⟩)
    |alt m=>obtain⟨a,c,h1,_⟩:=f;subst h1;rcases b with h|rfl;cases h;exact .inr (.inr ⟨rfl,_,_,rfl,by decide,by decide,rfl⟩)
    |rep z mn mx=>obtain⟨a,h1,_⟩:=f;subst h1;rcases b with h|rfl;cases h;exact .inr (.inr ⟨rfl,_,_,rfl,by decide,by decide,rfl⟩)
    |group q z=>obtain⟨a,h1,_⟩:=f;subst h1;rcases b with h|rfl;cases h;exact .inr (.inr ⟨rfl,_,_,rfl,by decide,by decide,rfl⟩)
    |back q=>subst f;rcases b with h|rfl;cases h;exact .inr (.inr ⟨rfl,_,_,rfl,by decide,by decide,rfl⟩)
    |start=>subst f;rcases b with h|rfl;cases h;exact .inr (.inr ⟨rfl,_,_,rfl,by decide,by decide,rfl⟩)
    |fin=>subst f;rcases b with h|rfl;cases h;exact .inr (.inr ⟨rfl,_,_,rfl,by decide,by decide,rfl⟩)
   clear hy b;rcases B with⟨hp,rfl⟩|⟨m,am,cm,hp,rfl,hm⟩|⟨hp,iy,z,rfl,n1,n2,rfl⟩
   ·rw[hp,List.append_nil]at d;clear hp;go_wp2;go_roundw
    case rel=>exact⟨k+1,by go_num,by omega,by rw[d.out];exact HB.out.on ((Fr.refl _ _).alloc _)⟩
    case measure=>simp[intOf];omega
   ·rw[hp]at d;have HM:=hid hm;clear hm hp;have p:(parts (l.take k)).length+m.length≤3000000:=by have h:=D.out;rw[d.out,List.length_append]at h;omega
    go_wp2_with(at_builtin;refine wpList_append_btS rfl (.tmp 27) (.tmp 29) rfl (parts (l.take k)) m _ _ (by rfl) (HB.out.on ((Fr.refl _ _).alloc _)) (by rfl) (fun g hg ho=>HM.out.behindS (HB.out.fr.trans' ((Fr.refl _ _).alloc _)) hg) p ?_;intro v' w3 j;obtain⟨J,I,o⟩:=j.shape;simp only[List.length_append]at o;subst o;have v:=hid j;clear j);go_roundw
    case rel=>exact⟨k+1,by go_num,by omega,by rw[d.out];exact v.out⟩
    case measure=>simp[intOf];omega
   ·rw[hp]at d;clear hp;have p:(parts (l.take k)).length+[n].length≤3000000:=by have h:=D.out;rw[d.out,List.length_append]at h;omega
    go_wp2_with(at_builtin;refine wpList_append_btS rfl (.tmp 17) (.tmp 19) rfl (parts (l.take k)) [n] _ _ (by rfl) (HB.out.on ((Fr.refl _ _).alloc _)) (by rfl) (fun g hg ho=>SN.one' (C.out.behindS (HB.out.fr) hg) (fun k hk=>hk.elim (fun x=>Nat.lt_of_lt_of_le (hS k x) HB.out.fr.size) (fun x=>HB.out.lt k (by rw[ho.blk];exact x))) _ rfl) p ?_;intro v' w3 j;obtain⟨J,I,o⟩:=j.shape;simp only[List.length_append,List.length_singleton]at o;subst o;have v:=hid j;clear j);go_roundw
    case rel=>exact⟨k+1,by go_num,by omega,by rw[d.out];exact v.out⟩
    case measure=>simp[intOf];omega
  ·obtain rfl:k=l.length:=by omega
   have hT:=hid (List.take_of_length_le (l:=l) (Nat.le_refl _));have hB:=HB.out;rw[hT.out]at hB;go_wp2_with fail;refine(onlyS_any S (parts l) (.cat (parts l)) _ _ _ (by have:=K.out;omega) (hB.sn hS) (ZjK.2 ⟨_,rfl,(hB.sn hS)⟩)).mono ?_;rintro e w2 ⟨r,rfl,hr,rfl⟩;have HR:=hid hr;clear hr;go_wp2;go_ret;exact⟨_,rfl,HR.out,HB.out.fr⟩
theorem Zd4(S:Nat→Prop)(l:List Nd)(u:Value)(w:World)(hS:∀k,S k→k<w.heap.size)(hl:Nd.sizes l≤3000000)(h:SN S w l u):
 Calls Tryz.prog 215 #[u] w fun e w'=>∃r,e=.returned r∧RN S w' (Za3 l) r∧Fr nob w w':=by
 obtain⟨a,c,rfl⟩:=h.shape;have H:=hid h;clear h;have P:=Nd.length_le l;have L:=hid (Nat.le_trans (Nd.length_le (arms l)) (Zdf l));go_enter Tryz.func215,Tryz.ntmps215;go_wp2_with fail
 go_loopw [3,10] (fun s i wr=>∃k:Nat,i=.int .i64 k∧k≤l.length∧Zaz S w (arms (l.take k)) s wr) (fun _ i _=>l.length-(intOf i).toNat)
 case atStart=>exact⟨0,rfl,Nat.zero_le _,Zaz.nil S w⟩
 case round=>
  obtain⟨k,rfl,hk,hB⟩:=hrel;obtain⟨av,cv,rfl⟩:=hB.shape;have HB:=hid hB;clear hB;by_cases A:k<l.length
  ·obtain⟨q,off,M,x,he,hx,hc⟩:=(H.out.on HB.out.fr).get A;obtain⟨_,_,_,x',t,C,F⟩:=H.out.get A;obtain rfl:x=x':=by
    rw[he]at t;injection t with e1 _ _;injection e1 with e1;injection e1 with e1 e2;subst e1;subst e2;have:=HB.out.fr.cell F (fun x=>x);rw[hc]at this;injection this
   clear t F;injection he with e1 e2 e3;subst e1;subst e3;have HX:=hid hx;have v:=hid C;clear hx C e2;have d:=hid (Zkm A);have D:=hid (Nat.le_trans (Nd.length_le (arms (l.take (k+1)))) (Nat.le_trans (Zdf _) (Nd.sizes_take_le l (k+1))));obtain⟨n,hn⟩:∃n,l[k]=n:=⟨_,rfl⟩;rw[hn]at HX v d;clear hn;have p:(∃m a c,n.arm=m∧x=.iface 137 (.agg #[.slice a m.length c])∧SN S w m (.slice a m.length c))∨(n.arm=[n.told]∧(x=.nilIface∨∃i z,x=.iface i z∧i≠137)):=by
    have f:=v.out.kind;cases n with
    |alt m=>
     obtain⟨a',c',h2,h3⟩:=f;exact .inl ⟨m,a',c',rfl,h2,h3⟩
    |nil=>exact .inr ⟨rfl,.inl f⟩
    |cat m=>obtain⟨a,c,h1,_⟩:=f;exact .inr ⟨rfl,.inr ⟨_,_,h1,by decide⟩⟩
    |rep z mn mx=>obtain⟨a,h1,_⟩:=f;exact .inr ⟨rfl,.inr ⟨_,_,h1,by decide⟩⟩
    |group q z=>obtain⟨a,h1,_⟩:=f;exact .inr ⟨rfl,.inr ⟨_,_,h1,by decide⟩⟩
    |_=>exact .inr ⟨rfl,.inr ⟨_,_,f,by decide⟩⟩
   rcases p with⟨m,am,cm,hp,rfl,hm⟩|⟨hp,hx⟩
   ·rw[hp]at d;have HM:=hid hm;clear hm hp;have j:(arms (l.take k)).length+m.length≤3000000:=by have h:=D.out;rw[d.out,List.length_append]at h;omega
    go_wp2_with(at_builtin;refine wpList_append_btS rfl (.tmp 20) (.tmp 22) rfl (arms (l.take k)) m _ _ (by rfl) (HB.out.on ((Fr.refl _ _).alloc _)) (by rfl) (fun g hg ho=>HM.out.behindS (HB.out.fr.trans' ((Fr.refl _ _).alloc _)) hg) j ?_;intro v' w3 b;obtain⟨J,G,o⟩:=b.shape;simp only[List.length_append]at o;subst o;have B:=hid b;clear b);go_roundw
    case rel=>exact⟨k+1,by go_num,by omega,by rw[d.out];exact B.out⟩
    case measure=>simp[intOf];omega
   ·rw[hp]at d;clear hp;have j:(arms (l.take k)).length+[n.told].length≤3000000:=by have h:=D.out;rw[d.out,List.length_append]at h;omega
    obtain⟨g0,o0,f0,l0⟩:=HB.out;have K:=hid (v.out.behindS f0 l0);have I:=o0.blk;have O:=hid l0;have F0:=hid f0;have O0:=hid o0;clear l0 f0 o0;rcases hx with rfl|⟨ix,zx,rfl,N⟩
    all_goals
     go_wp2_with fail;refine(told_any (LGS S g0) n _ _ (K.out.on ((Fr.refl _ _).alloc _))).mono ?_;rintro e w2 ⟨y,rfl,hy,rfl⟩;have HY:=hid hy;have E:=hy.shape;clear hy;rcases E with rfl|⟨iy,zy,rfl⟩
     all_goals
      go_wp2_with(at_builtin;refine wpList_append_btS rfl (.tmp 24) (.tmp 27) rfl (arms (l.take k)) [n.told] _ _ (by rfl) (HB.out.on (((Fr.refl _ _).alloc _).alloc _)) (by rfl) (fun g hg ho=>by have e:=I.symm.trans ho.blk;subst e;exact SN.one' HY.out (fun k hk=>hk.elim (fun x=>by have:=hS k x;have:=F0.out.size;simp;omega) (fun x=>by have:=O0.out.lt k x;simp;omega)) _ (by simp)) j ?_;intro v' w3 b;obtain⟨J,G,o⟩:=b.shape;simp only[List.length_append,List.length_singleton]at o;subst o;have B:=hid b;clear b);go_roundw
      case rel=>exact⟨k+1,by go_num,by omega,by rw[d.out];exact B.out⟩
      case measure=>simp[intOf];omega
  ·obtain rfl:k=l.length:=by omega
   have hT:=hid (List.take_of_length_le (l:=l) (Nat.le_refl _));have hB:=HB.out;rw[hT.out]at hB;go_wp2_with fail;refine(onlyS_any S (arms l) (.alt (arms l)) _ _ _ (by have:=L.out;omega) (hB.sn hS) (ZjL.2 ⟨_,rfl,(hB.sn hS)⟩)).mono ?_;rintro e w2 ⟨r,rfl,hr,rfl⟩;have HR:=hid hr;clear hr;go_wp2;go_ret;exact⟨_,rfl,HR.out,HB.out.fr⟩
def Zq2(k:Int)(s:S4)(v:Value)(mn mx nu:Int):List Value:=[.int .i64 k,.int .u64 s.a,.int .u64 s.b,.int .u64 s.c,.int .u64 s.d,v,.int .i64 mn,.int .i64 mx,.int .i64 nu]
theorem Zfe{P:Program}{x a:TypeId}{fs:Array Field}(h:P.underlying a=some (.struct fs))(v:Value)(w:World):
 (Instr.typeAssert (.iface a v) x a false).run P w=.ok v w:=by
 simp[Instr.typeAssert,run_underlying h]
theorem ZfW(fn:Fn)(first cap:Array Value)(w:World):(Instr.makeFunc fn first cap).run Tryz.prog w=.ok (.func fn first cap) w:=rfl
abbrev C9(w:World)(b:Nat)(v0 v1 v2 v3 v4 v5 v6 v7 v8:Value):Prop:=
 w.cell? ⟨b,0,none⟩=some v0∧w.cell? ⟨b,1,none⟩=some v1∧w.cell? ⟨b,2,none⟩=some v2∧w.cell? ⟨b,3,none⟩=some v3∧w.cell? ⟨b,4,none⟩=some v4∧w.cell? ⟨b,5,none⟩=some v5∧w.cell? ⟨b,6,none⟩=some v6∧w.cell? ⟨b,7,none⟩=some v7∧w.cell? ⟨b,8,none⟩=some v8
theorem C9.of{w:World}{b:Nat}{v0 v1 v2 v3 v4 v5 v6 v7 v8:Value}{T:TypeId}{fr:Nat×Nat}(h:w.heap[b]? =some (.cells #[v0,v1,v2,v3,v4,v5,v6,v7,v8] T fr)):C9 w b v0 v1 v2 v3 v4 v5 v6 v7 v8:=
 ⟨cell_at h rfl,cell_at h rfl,cell_at h rfl,cell_at h rfl,cell_at h rfl,cell_at h rfl,cell_at h rfl,cell_at h rfl,cell_at h rfl⟩
attribute [local go_sem ↓] Go.wp_at_zero Go.wp_at_succ
abbrev ZcB(w:World)(b:Nat)(v0 v1 v2 v3 v4 v5 v6 v7 v8:Value):World:=
 ((((((((w.setCell ⟨b,0,none⟩ v0).setCell ⟨b,1,none⟩ v1).setCell ⟨b,2,none⟩ v2).setCell ⟨b,3,none⟩ v3).setCell ⟨b,4,none⟩ v4).setCell ⟨b,5,none⟩ v5).setCell ⟨b,6,none⟩ v6).setCell ⟨b,7,none⟩ v7).setCell ⟨b,8,none⟩ v8
theorem Zf{w:World}{b:Nat}{a0 a1 a2 a3 a4 a5 a6 a7 a8:Value}{T:TypeId}{fr:Nat×Nat}(h:w.heap[b]? =some (.cells #[a0,a1,a2,a3,a4,a5,a6,a7,a8] T fr))(v0 v1 v2 v3 v4 v5 v6 v7 v8:Value):
 (ZcB w b v0 v1 v2 v3 v4 v5 v6 v7 v8).heap[b]? =some (.cells #[v0,v1,v2,v3,v4,v5,v6,v7,v8] T fr):=by
 have h0:(w.setCell ⟨b,0,none⟩ v0).heap[b]? =some (.cells #[v0,a1,a2,a3,a4,a5,a6,a7,a8] T fr):=Za h 0 v0;have h1:((w.setCell ⟨b,0,none⟩ v0).setCell ⟨b,1,none⟩ v1).heap[b]? =some (.cells #[v0,v1,a2,a3,a4,a5,a6,a7,a8] T fr):=Za h0 1 v1;have h2:(((w.setCell ⟨b,0,none⟩ v0).setCell ⟨b,1,none⟩ v1).setCell ⟨b,2,none⟩ v2).heap[b]? =some (.cells #[v0,v1,v2,a3,a4,a5,a6,a7,a8] T fr):=Za h1 2 v2;have h3:((((w.setCell ⟨b,0,none⟩ v0).setCell ⟨b,1,none⟩ v1).setCell ⟨b,2,none⟩ v2).setCell ⟨b,3,none⟩ v3).heap[b]? =some (.cells #[v0,v1,v2,v3,a4,a5,a6,a7,a8] T fr):=Za h2 3 v3;have h4:(((((w.setCell ⟨b,0,none⟩ v0).setCell ⟨b,1,none⟩ v1).setCell ⟨b,2,none⟩ v2).setCell ⟨b,3,none⟩ v3).setCell ⟨b,4,none⟩ v4).heap[b]? =some (.cells #[v0,v1,v2,v3,v4,a5,a6,a7,a8] T fr):=Za h3 4 v4;have h5:((((((w.setCell ⟨b,0,none⟩ v0).setCell ⟨b,1,none⟩ v1).setCell ⟨b,2,none⟩ v2).setCell ⟨b,3,none⟩ v3).setCell ⟨b,4,none⟩ v4).setCell ⟨b,5,none⟩ v5).heap[b]? =some (.cells #[v0,v1,v2,v3,v4,v5,a6,a7,a8] T fr):=Za h4 5 v5
 have h6:(((((((w.setCell ⟨b,0,none⟩ v0).setCell ⟨b,1,none⟩ v1).setCell ⟨b,2,none⟩ v2).setCell ⟨b,3,none⟩ v3).setCell ⟨b,4,none⟩ v4).setCell ⟨b,5,none⟩ v5).setCell ⟨b,6,none⟩ v6).heap[b]? =some (.cells #[v0,v1,v2,v3,v4,v5,v6,a7,a8] T fr):=Za h5 6 v6;have h7:((((((((w.setCell ⟨b,0,none⟩ v0).setCell ⟨b,1,none⟩ v1).setCell ⟨b,2,none⟩ v2).setCell ⟨b,3,none⟩ v3).setCell ⟨b,4,none⟩ v4).setCell ⟨b,5,none⟩ v5).setCell ⟨b,6,none⟩ v6).setCell ⟨b,7,none⟩ v7).heap[b]? =some (.cells #[v0,v1,v2,v3,v4,v5,v6,v7,a8] T fr):=Za h6 7 v7;have h8:(((((((((w.setCell ⟨b,0,none⟩ v0).setCell ⟨b,1,none⟩ v1).setCell ⟨b,2,none⟩ v2).setCell ⟨b,3,none⟩ v3).setCell ⟨b,4,none⟩ v4).setCell ⟨b,5,none⟩ v5).setCell ⟨b,6,none⟩ v6).setCell ⟨b,7,none⟩ v7).setCell ⟨b,8,none⟩ v8).heap[b]? =some (.cells #[v0,v1,v2,v3,v4,v5,v6,v7,v8] T fr):=Za h7 8 v8;exact h8
theorem Zjh{w a:World}{b:Nat}(f:Fr nob a w)(hb:a.heap.size≤b)(v0 v1 v2 v3 v4 v5 v6 v7 v8:Value):Fr nob a (ZcB w b v0 v1 v2 v3 v4 v5 v6 v7 v8):=by
 have h:∀(x:World) (j:Nat) (v:Value),Fr nob a x→Fr nob a (x.setCell ⟨b,j,none⟩ v):=fun x j v hx=>hx.setCell (p:=⟨b,j,none⟩) (fun h=>absurd h (Nat.not_lt.2 hb)) v;exact h _ _ _ (h _ _ _ (h _ _ _ (h _ _ _ (h _ _ _ (h _ _ _ (h _ _ _ (h _ _ _ (h _ _ _ f))))))))
theorem Zas{w:World}{b:Nat}(v0 v1 v2 v3 v4 v5 v6 v7 v8:Value):Fr (fun k=>k=b) w (ZcB w b v0 v1 v2 v3 v4 v5 v6 v7 v8):=by
 have h:∀(x:World) (j:Nat) (v:Value),Fr (fun k=>k=b) w x→Fr (fun k=>k=b) w (x.setCell ⟨b,j,none⟩ v):=fun x j v hx=>hx.setCell (p:=⟨b,j,none⟩) (fun _=>rfl) v;exact h _ _ _ (h _ _ _ (h _ _ _ (h _ _ _ (h _ _ _ (h _ _ _ (h _ _ _ (h _ _ _ (h _ _ _ (Fr.refl _ w)))))))))
theorem ZfX{w:World}{b:Nat}(v0 v1 v2 v3 v4 v5 v6 v7 v8:Value):(ZcB w b v0 v1 v2 v3 v4 v5 v6 v7 v8).heap.size=w.heap.size:=by
 simp[World.setCell]
abbrev C3(w:World)(b:Nat)(v0 v1 v2:Value):Prop:=w.cell? ⟨b,0,none⟩=some v0∧w.cell? ⟨b,1,none⟩=some v1∧w.cell? ⟨b,2,none⟩=some v2
abbrev C2(w:World)(b:Nat)(v0 v1:Value):Prop:=w.cell? ⟨b,0,none⟩=some v0∧w.cell? ⟨b,1,none⟩=some v1
end Go.Proofs.YtkfddjopbocpkaaGreatDoor
