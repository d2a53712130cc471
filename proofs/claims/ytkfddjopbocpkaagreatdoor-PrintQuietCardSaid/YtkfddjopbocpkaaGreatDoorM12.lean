/- Lemmas of this claim. -/
import Derived.Test.YtkfddjopbocpkaaGreatDoorM10
import Derived.Test.YtkfddjopbocpkaaGreatDoorM11
set_option linter.unusedVariables false
set_option linter.unusedSimpArgs false
set_option maxRecDepth 100000
set_option maxHeartbeats 4000000
namespace Go.Proofs.YtkfddjopbocpkaaGreatDoor
open Go.RowKit
def PO(O:Nat→Prop)(v:Value):Nat→Prop:=fun k=>O k∨v.ownBlock=some k
def Pts(S O:Nat→Prop)(W w:World)(ps:List Nd)(v:Value):Prop:=OwnNS (SO S O) w ps v v.ownBlock∧∀k,v.ownBlock=some k→¬S k∧W.heap.size≤k
def Off(S:Nat→Prop)(W w w':World):Prop:=∃X,Fr X w w'∧∀k,X k→¬S k∧W.heap.size≤k
theorem Pts.nil(S O:Nat→Prop)(W w:World):Pts S O W w [] (.slice none 0 0):=⟨OwnNS.nil _ _,fun _ h=>by cases h⟩
theorem Pts.shape{S O:Nat→Prop}{W w:World}{ps:List Nd}{v:Value}(h:Pts S O W w ps v):∃a c,v=.slice a ps.length c:=h.1.shape
theorem Pts.stp{S O S':Nat→Prop}{W w w':World}{ps:List Nd}{v:Value}(h:Pts S O W w ps v)(hs:Stp S w S' w'):Pts S' O W w' ps v:=by
 obtain⟨h,hb⟩:=h;have a:=h.lt;obtain⟨vs,h1,h2,h3⟩:=h;refine⟨⟨vs,ownsRow_fr h1 hs.fr (fun k hk=>(hb k hk).1),h2.keep hs.fr (fun k _ x=>.inl (.inl x)) (fun k hk x=> ?_),h3⟩,fun k hk=>⟨fun x=>(hb k hk).1 (hs.old k (a k hk) x),(hb k hk).2⟩⟩;rcases x with(x|x)|x
 ·exact .inl (.inl (hs.old k hk x))
 ·exact .inl (.inr x)
 ·exact .inr x
theorem Pts.on{S O:Nat→Prop}{W w w':World}{ps:List Nd}{v:Value}(h:Pts S O W w ps v)(f:Fr nob w w'):Pts S O W w' ps v:=h.stp (Stp.of f)
theorem Pts.lt{S O:Nat→Prop}{W w:World}{ps:List Nd}{v:Value}(h:Pts S O W w ps v)(hO:∀k,O k→k<w.heap.size):∀k,PO O v k→k<w.heap.size:=fun k hk=>hk.elim (hO k) (h.1.lt k)
theorem Pts.sn{S O:Nat→Prop}{W w:World}{ps:List Nd}{v:Value}(h:Pts S O W w ps v)(hO:∀k,O k→k<W.heap.size):SN (SO S O) w ps v:=
 h.1.sn fun k hk x=>x.elim (h.2 k hk).1 (fun y=>by have:=hO k y;have:=(h.2 k hk).2;omega)
theorem Br.off{b:Nat}{l:List UInt8}{s:RxS}{S:Nat→Prop}{cv mv:Value}{W w w':World}(h:Br b l s S cv mv w)(f:Off S W w w'):Br b l s S cv mv w':=by
 obtain⟨X,f,hX⟩:=f;exact⟨f.heap h.blk (fun x=>(hX _ x).1 h.me),ownsRow_fr h.cl f (fun k hk x=>(hX _ x).1 (h.nc k hk).2),ownsRow_fr h.ma f (fun k hk x=>(hX _ x).1 (h.nm k hk).2),h.nc,h.nm,h.ne,h.me⟩
theorem Rdg.off{b:Nat}{l:List UInt8}{s:RxS}{S:Nat→Prop}{W w w':World}(h:Rdg b l s S w)(f:Off S W w w'):Rdg b l s S w':=by
 obtain⟨cv,mv,h⟩:=h;exact⟨cv,mv,h.off f⟩
theorem Stp.off{S0 S:Nat→Prop}{W w w':World}(h:Stp S0 W S w)(f:Off S W w w'):Stp S0 W S w':=by
 obtain⟨X,f,hX⟩:=f;exact⟨h.fr.trans f (fun i hi x=>by have:=(hX i x).2;omega),h.old,fun hl k hk=>Nat.lt_of_lt_of_le (h.lt hl k hk) f.size⟩
theorem wpList_append_pts{W w0:World}{S O:Nat→Prop}{ops:Array Oper}{rest:List Oper}{o:Oper}{a:Act}{Q:Exit→Act→World→Prop}(hgd:o.guard=none)(s x:Operand)
 (ho:o.op=.call {callee:=.builtin .append,args:= #[s,x],argTypes:= #[127,127]})
 (ps:List Nd) (t:Nd) (v val:Value) (e:TypeId) (b:Nat) (hs:a.eval s=v) (hp:Pts S O W w0 ps v) (hlt:∀k,S k→k<w0.heap.size) (hO:∀k,O k→k<w0.heap.size) (hW:W.heap.size≤w0.heap.size) (hb:b=w0.heap.size)
 (hx:a.eval x=.slice (some ⟨b,0,none⟩) 1 1) (hv:RN (SO S (PO O v)) w0 t val) (hl:ps.length≤2000000)
 (h:∀v' w',Pts S O W w' (ps++[t]) v'→Off S W w0 w'→wpList Tryz.prog ops Q rest (a.put o.dst v') w'):wpList Tryz.prog ops Q (o::rest) a (w0.alloc (.cells #[val] e)):=by
 have f:RN (LGS (SO S O) v.ownBlock) w0 t val:=RN.keep (Fr.refl nob w0) (fun _ _ x=>x.elim) (fun k _ x=>by
  rcases x with(x|x)|x
  ·exact .inl x
  ·exact .inr (.inl x)
  ·exact .inr (.inr x)) _ _ hv
 have i:SN (LGS (SO S O) v.ownBlock) (w0.alloc (.cells #[val] e)) [t] (.slice (some ⟨b,0,none⟩) 1 1):=SN.one' f (fun k x=>by
  rcases x with(x|x)|x
  ·exact hlt k x
  ·exact hO k x
  ·exact hp.1.lt k x) e hb
 have c:=hp.1.on ((Fr.refl nob w0).alloc (.cells #[val] e));refine Zbu hgd s x ho ps [t] v _ v.ownBlock hs c hx i (by simp;omega) fun v' w' g' q1 q2 q3=> ?_;have d:v'.ownBlock=g':=q1.blk;subst d;have g:w0.heap.size≤(w0.alloc (.cells #[val] e)).heap.size:=((Fr.refl nob w0).alloc _).size;refine h v' w' ⟨q1,fun k hk=> ?_⟩ ⟨LG v.ownBlock,((Fr.refl (LG v.ownBlock) w0).alloc _).trans' q2,fun k hk=>hp.2 k hk⟩;rcases q3 k hk with hk|hk
 ·exact hp.2 k hk
 ·refine⟨fun x=>by have:=hlt k x;omega,?_⟩;exact Nat.le_trans (Nat.le_trans hW g) hk
def Nd.unit:Nd→Bool
 | .one _| .rep .. | .group .. | .back _| .start| .fin=>true
 |_=>false
def Zeq(ps:List Nd):Prop:=∀t∈ps,t.unit=true
theorem Zeq.snoc{ps:List Nd}{t:Nd}(h:Zeq ps)(ht:t.unit=true):Zeq (ps++[t]):=fun x hx=>by
 rcases List.mem_append.1 hx with hx|hx
 ·exact h x hx
 ·rw[List.mem_singleton.1 hx];exact ht
theorem unit_part{t:Nd}(h:t.unit=true):t.part=[t]:=by cases t<;>first|rfl|cases h
theorem Zhk{ps:List Nd}(h:Zeq ps):parts ps=ps:=by
 induction ps with
 |nil=>rfl
 |cons t ts ih=>
  show t.part++parts ts=_;rw[unit_part (h t (by simp)),ih (fun x hx=>h x (by simp[hx]))];rfl
def Nd.brn:Nd→Prop
 | .empty=>True
 | .cat l=>1<l.length∧Zeq l
 |t=>t.unit=true
theorem joined_brn{ps:List Nd}(h:Zeq ps):(Za2 ps).brn:=by
 unfold Za2;rw[Zhk h]
 match ps,h with
 |[],_=>trivial
 |[x],h=>
  have:=h x (by simp);show x.brn;cases x<;>first|exact this|cases this
 |x::y::r,h=>exact⟨by simp,h⟩
theorem Zn2{t:Nd}(h:t.brn):t.arm=[t]:=by cases t<;>first|rfl|cases h
def Zn3(ts:List Nd):Prop:=∀t∈ts,t.brn
theorem Zn3.snoc{ts:List Nd}{t:Nd}(h:Zn3 ts)(ht:t.brn):Zn3 (ts++[t]):=fun x hx=>by
 rcases List.mem_append.1 hx with hx|hx
 ·exact h x hx
 ·rw[List.mem_singleton.1 hx];exact ht
theorem brns_arms{ts:List Nd}(h:Zn3 ts):arms ts=ts:=by
 induction ts with
 |nil=>rfl
 |cons t r ih=>
  show t.arm++arms r=_;rw[Zn2 (h t (by simp)),ih (fun x hx=>h x (by simp[hx]))];rfl
theorem Zhl{ts:List Nd}(h:Zn3 ts):Za3 ts=Zd3 ts (.alt ts):=by unfold Za3;rw[brns_arms h]
theorem Zjj{ts:List Nd}(h:Zn3 ts):Za3 ts≠.nil:=by
 rw[Zhl h]
 match ts,h with
 |[],_=>intro e;cases e
 |[x],h=>intro e;have:=h x (by simp);rw[show x=Nd.nil from e]at this;cases this
 |x::y::r,_=>intro e;cases e
theorem repS_unit{l:List UInt8}:∀(n:Nat) (s:RxS) (t t':Nd) (s':RxS),t.unit=true→ZbW prg l n s t=.inr (t',s')→t'.unit=true
 |0,s,t,t',s',ht,h=>by rw[ZbW]at h;injection h with h;injection h with h1 h2;subst h1;exact ht
 |n+1,s,t,t',s',ht,h=>by
  rw[ZbW]at h;split at h
  ·exact repS_unit n _ _ _ _ (by rfl) h
  ·split at h
   ·exact repS_unit n _ _ _ _ (by rfl) h
   ·split at h
    ·split at h
     ·cases h
     ·exact repS_unit n _ _ _ _ (by rfl) h
    ·split at h
     ·exact repS_unit n _ _ _ _ (by rfl) h
     ·injection h with h;injection h with h1 h2;subst h1;exact ht
theorem groupS_unit{l:List UInt8}{C:Option (RxS→Out Nd)}{p:Nat}{s s':RxS}{t:Nd}(h:Zbs prg l C p s=.inr (t,s')):t.unit=true:=by
 unfold Zbs at h;split at h
 ·cases h
 ·split at h
  ·cases h
  ·split at h
   ·injection h with h;injection h with h1 h2;subst h1;rfl
   ·cases h
theorem atomS_unit{l:List UInt8}{C:Option (RxS→Out Nd)}{s s':RxS}{t:Nd}{b:UInt8}(h:Zb0 prg l C s b=.inr (t,s')):t.unit=true:=by
 unfold Zb0 at h;split at h
 ·unfold ZlI at h;split at h
  ·cases h
  ·split at h
   ·exact groupS_unit h
   ·split at h
    ·cases h
    ·split at h
     ·split at h
      ·injection h with h;injection h with h1 h2;subst h1;rfl
      ·cases h
     ·split at h
      ·cases h
      ·injection h with h;injection h with h1 h2;subst h1;rfl
 ·split at h
  ·split at h
   ·cases h
   ·injection h with h;injection h with h1 h2;subst h1;rfl
  ·split at h
   ·injection h with h;injection h with h1 h2;subst h1;rfl
   ·injection h with h;injection h with h1 h2;subst h1;rfl
theorem rndS_unit{l:List UInt8}{C:Option (RxS→Out Nd)}{s s':RxS}{t:Nd}{b:UInt8}(h:ZjJ l C s b=.inr (t,s')):t.unit=true:=by
 unfold ZjJ at h;split at h
 ·cases h
 ·next hp=>exact repS_unit _ _ _ _ _ (atomS_unit hp) h
theorem brS_brn{l:List UInt8}{C:Option (RxS→Out Nd)}{inner:Bool}:∀(n:Nat) (front:Bool) (s:RxS) (ps:List Nd) (t:Nd) (s':RxS),Zeq ps→brS prg l C inner n front s ps=.inr (t,s')→t.brn
 |0,front,s,ps,t,s',hu,h=>by rw[brS]at h;injection h with h;injection h with h1 h2;subst h1;exact joined_brn hu
 |n+1,front,s,ps,t,s',hu,h=>by
  by_cases hl:s.at_<l.length
  ·cases h1:(ahd l s.at_ [92,124]||(inner&&ahd l s.at_ [92,41]))with
   |true=>rw[ZdH hl h1]at h;injection h with h;injection h with h1 h2;subst h1;exact joined_brn hu
   |false=>
    cases h2:(front&&(ahd l s.at_ [92,123]||(ahd l s.at_ [92,43]||ahd l s.at_ [92,63])))with
    |true=>rw[Zd6 hl h1 h2]at h;cases h
    |false=>
     cases h3:(ahd l s.at_ [36]&&ZbL l s.at_)with
     |true=>rw[Zfj hl h1 h2 h3]at h;exact brS_brn n _ _ _ _ _ (hu.snoc (by rfl)) h
     |false=>
      rw[ZeD hl h1 h2 h3]at h;cases hr:ZjJ l C s l[s.at_]with
      |inl e=>rw[hr]at h;cases h
      |inr z=>
       obtain⟨t1,s1⟩:=z;rw[hr]at h;exact brS_brn n _ _ _ _ _ (hu.snoc (rndS_unit hr)) h
  ·rw[Zfi (by omega)]at h;injection h with h;injection h with h1 h2;subst h1;exact joined_brn hu
theorem branchS_brn{l:List UInt8}{C:Option (RxS→Out Nd)}{inner:Bool}{s s':RxS}{t:Nd}(h:branchS prg l C inner s=.inr (t,s')):t.brn:=by
 unfold branchS at h;split at h
 ·exact brS_brn _ _ _ _ _ _ (fun x hx=>by rw[List.mem_singleton.1 hx];rfl) h
 ·exact brS_brn _ _ _ _ _ _ (fun x hx=>by cases hx) h
theorem Zhm{t:Nd}(h:t.brn):t≠.nil:=by rintro rfl;cases h
theorem RN.kind'{S:Nat→Prop}{w:World}{t:Nd}{v:Value}(h:RN S w t v):t=.nil∨∃i x,v=.iface i x:=by
 cases t with
 |nil=>exact .inl rfl
 |_=>exact .inr (by rcases h.shape with e|e<;>first|exact e|(subst e;rw[RN]at h;first|(obtain⟨_,h,_⟩:=h;cases h;done)|(cases h;done)))
theorem RN.some{S:Nat→Prop}{w:World}{t:Nd}{v:Value}(h:RN S w t v)(ht:t≠.nil):∃i x,v=.iface i x:=by
 rcases h.kind' with h|h
 ·exact absurd h ht
 ·exact h
open Go.Lib (hid)
def BrRel(b:Nat)(l:List UInt8)(C:Option (RxS→Out Nd))(inner:Bool)(S O:Nat→Prop)(w:World)(F:Out Nd)(n:Nat)(v5 v6:Value)(wr:World):Prop:=
 ∃front s ps S',v6=.bool front∧Pts S' O w wr ps v5∧Rdg b l s S' wr∧Stp S w S' wr∧Sane l s∧l.length<n+s.at_∧Nd.sizes ps≤s.at_∧Zeq ps∧brS prg l C inner n front s ps=F
theorem ZkB(b:Nat)(l:List UInt8)(W0:World)(deep:Nat)(C:Option (RxS→Out Nd))(s:RxS)(S O:Nat→Prop)(w:World)(hO:∀k,O k→k<w.heap.size)(hl:l.length≤100000)(hd:deep≤12)(hE0:Env W0)
 (hG:ZoT l W0 deep C) (hC:∀f,C=some f→ZcC l 2 f) (hs:Sane l s) (hW:Wd W0 S w) (h:Rdg b l s S w):
 Calls Tryz.prog 216 #[.pointer (some ⟨b,0,none⟩),.int .i64 deep] w fun x w'=>ZbO b l S O w (branchS prg l C (decide (0<deep)) s) x w':=by
 obtain⟨a,c1⟩:∃a,decide (0<deep)=a:=⟨_,rfl⟩;obtain⟨F,hF⟩:∃F,branchS prg l C a s=F:=⟨_,rfl⟩;rw[c1,hF];have d5:=hid (ZbN b l [94] s S w hl (by decide) hs.le h);have t:=hid hs;have HW:=hid hW;have HG:=hid hG;have HC:=hid hC;have h5:=hid hE0;have A:=hid hO;unfold branchS at hF;have d6:=hid c1;clear hs hW hG hC hE0 hO h c1;go_enter Tryz.func216,Tryz.ntmps216;go_wp2_with fail;refine(d5.out).mono ?_;rintro e w1 ⟨rfl,r1,t1⟩;have R1:=hid r1;have T1:=hid t1;clear d5 r1 t1;go_upto_if 8 with(fail)
 go_cut [5] (fun v w'=>∃s1 c,Pts S O w w' c v∧Rdg b l s1 S w'∧Stp S w S w'∧Sane l s1∧Nd.sizes c≤s1.at_∧Zeq c∧brS prg l C a (l.length+1) true s1 c=F)
 case first=>
  cases e0:ahd l s.at_ [94]
  case' true=>
   rw[if_pos e0]at hF;have r1:=R1.out;rw[e0]at r1;simp only[if_true]at r1;have g7:=ahd_le e0 (by decide);simp only[List.length_singleton]at g7;have g5:=hid (HW.out.stp T1.out).lt;go_wp2_with(at_builtin;refine wpList_append_pts (W:=w) (S:=S) (O:=O) rfl (.tmp 9) (.tmp 12) rfl [] .start (.slice none 0 0) _ _ _ (by rfl) (Pts.nil _ _ _ _) g5.out (fun k hk=>Nat.lt_of_lt_of_le (A.out k hk) T1.out.fr.size) T1.out.fr.size rfl (by rfl) (by rw[RN]) (by simp) ?_;intro v2 w2 b4 N;obtain⟨s1,g⟩:∃s1,s1=s.go 1:=⟨_,rfl⟩;obtain⟨c,d⟩:∃c:List Nd,c=[.start]:=⟨_,rfl⟩;have G:=hid (show Pts S O w w2 c v2 from d▸b4);have I:=hid (show Rdg b l s1 S w2 from g▸r1.off N);have H:=hid (T1.out.off N);have E:=hid (show Sane l s1 from g▸t.out.go g7);have J:=hid (show Nd.sizes c≤s1.at_ from by rw[g,d];show 1+0≤s.at_+1;omega);have B:=hid (show Zeq c from d▸fun x hx=>by rw[List.mem_singleton.1 hx];rfl);have D:=hid (show brS prg l C a (l.length+1) true s1 c=F from by rw[g,d];exact hF);obtain⟨a2,c2,rfl⟩:=b4.shape;clear b4 N g d r1 hF e0 R1 g5)
   go_meet
   case rel=>exact⟨s1,c,G.out,I.out,H.out,E.out,J.out,B.out,D.out⟩
  case' false=>
   rw[if_neg (by rw[e0];decide)]at hF;have r1:=R1.out;rw[e0]at r1;simp only[Bool.false_eq_true,if_false]at r1;obtain⟨w2,i3⟩:∃w2,w2=w1:=⟨_,rfl⟩;subst i3;obtain⟨s1,g⟩:∃s1,s1=s:=⟨_,rfl⟩;obtain⟨c,d⟩:∃c:List Nd,c=[]:=⟨_,rfl⟩;have G:=hid (show Pts S O w w2 c (.slice none 0 0)from d▸Pts.nil _ _ _ _);have I:=hid (show Rdg b l s1 S w2 from g▸r1);have H:=hid (T1.out);have E:=hid (show Sane l s1 from g▸t.out);have J:=hid (show Nd.sizes c≤s1.at_ from by rw[d];exact Nat.zero_le _);have B:=hid (show Zeq c from d▸fun x hx=>by cases hx);have D:=hid (show brS prg l C a (l.length+1) true s1 c=F from by rw[g,d];exact hF);clear g d r1 hF e0 R1;go_wp2;go_meet
   case rel=>exact⟨s1,c,G.out,I.out,H.out,E.out,J.out,B.out,D.out⟩
 case rest=>
  obtain⟨s1,c,c4,d7,d9,g,g3,e8,d0⟩:=hcut;have G:=hid c4;have I:=hid d7;have H:=hid d9;have E:=hid g;have J:=hid g3;have B:=hid e8;have D:=hid d0;obtain⟨a2,c2,rfl⟩:=c4.shape;clear c4 d7 d9 g g3 e8 d0;go_wp2_with fail;clear T1 R1 t
  go_loopg [5,6] (l.length+1) (fun n u v wr=>BrRel b l C a S O w F n u v wr)
  case atStart=>exact⟨true,s1,c,S,rfl,G.out,I.out,H.out,E.out,by omega,J.out,B.out,D.out⟩
  case round=>
   clear G I H E J B D;obtain⟨q,s,ps,S1,rfl,hp,hr,p,b9,hn,hz,hu,hF⟩:=hrel;have g6:=b9.le;obtain⟨m,rfl⟩:∃m,gk=m+1:=⟨gk-1,by omega⟩;obtain⟨av,cv0,hv⟩:=hp.shape;subst hv;obtain⟨v5,a1⟩:∃v5,v5=Value.slice av ps.length cv0:=⟨_,rfl⟩;have b1:=hid (ZnV b l s S1 wr (by omega) hr);have HA:=hid (fun(tt:List UInt8) (w':World) (f:Fr nob wr w') (ht:tt.length≤1000)=>Zcg b l tt s S1 w' (by omega) (by omega) g6 (hr.on f));have HP:=hid (show Pts S1 O w wr ps v5 from a1▸hp);have HR:=hid hr;have i:=hid p;have t:=hid b9;have HU:=hid hu;have HF:=hid hF;have c8:=hid a1;have b6:=hid (HW.out.stp p);have HJ:=hid (fun(w':World) (f:Fr nob wr w')=>joinS_any (SO S1 O) ps (.slice av ps.length cv0) w' (fun k hk=>Nat.lt_of_lt_of_le (hk.elim ((HW.out.stp p).lt k) (fun x=>Nat.lt_of_lt_of_le (A.out k x) p.fr.size)) f.size) (by omega) ((hp.on f).sn A.out));clear hp hr p b9 hF a1 hu
   obtain⟨ov,a4⟩:∃x,decide (l.length≤s.at_)=x:=⟨_,rfl⟩;obtain⟨e1,b2⟩:∃x,ahd l s.at_ [92,124]=x:=⟨_,rfl⟩;obtain⟨e2,a3⟩:∃x,ahd l s.at_ [92,41]=x:=⟨_,rfl⟩;obtain⟨e3,c5⟩:∃x,ahd l s.at_ [92,123]=x:=⟨_,rfl⟩;obtain⟨e4,a6⟩:∃x,ahd l s.at_ [92,43]=x:=⟨_,rfl⟩;obtain⟨e5,b5⟩:∃x,ahd l s.at_ [92,63]=x:=⟨_,rfl⟩;obtain⟨e6,b0⟩:∃x,ahd l s.at_ [36]=x:=⟨_,rfl⟩;obtain⟨e7,a8⟩:∃x,ZbL l s.at_=x:=⟨_,rfl⟩;obtain⟨st,p⟩:∃x,(ov||(e1||(a&&e2)))=x:=⟨_,rfl⟩;obtain⟨a5,c3⟩:∃x,(q&&(e3||(e4||e5)))=x:=⟨_,rfl⟩;obtain⟨L,b7⟩:∃x,(e6&&e7)=x:=⟨_,rfl⟩;rw[a4]at b1;have H1:=hid (fun w' f=>by have:=HA.out [92,124] w' f (by decide);rwa[b2]at this);have H2:=hid (fun w' f=>by have:=HA.out [92,41] w' f (by decide);rwa[a3]at this);have H3:=hid (fun w' f=>by have:=HA.out [92,123] w' f (by decide);rwa[c5]at this);have H4:=hid (fun w' f=>by have:=HA.out [92,43] w' f (by decide);rwa[a6]at this);have H5:=hid (fun w' f=>by have:=HA.out [92,63] w' f (by decide);rwa[b5]at this)
   have H6:=hid (fun w' f=>by have:=HA.out [36] w' f (by decide);rwa[b0]at this);have HE:=hid (show decide (l.length≤s.at_)=ov∧(ahd l s.at_ [92,124]||(a&&ahd l s.at_ [92,41]))=(e1||(a&&e2))∧(q&&(ahd l s.at_ [92,123]||(ahd l s.at_ [92,43]||ahd l s.at_ [92,63])))=a5∧(ahd l s.at_ [36]&&ZbL l s.at_)=L by rw[b2,a3,c5,a6,b5,b0,a8];exact⟨a4,rfl,c3,b7⟩);have j:=hid p;have R:=hid c3;have a0:=hid b7;have g0:=hid a8;clear a4 b2 a3 c5 a6 b5 b0 a8 p c3 b7 HA
   go_upto_region 5 with(fail)
   go_cut [30] (fun v w'=>v=.bool (!st)∧Fr nob wr w')
   case first=>
    go_wp2_with fail;refine(b1.out).mono ?_;rintro e w1 ⟨rfl,f1⟩;have F1:=hid f1;clear f1;cases ov
    ·go_wp2_with fail;refine(H1.out w1 F1.out).mono ?_;rintro e w2 ⟨rfl,f2⟩;have F2:=hid (F1.out.trans' f2);clear f2;cases e1
     ·cases a
      ·have h0:¬(0:Int)<(deep:Int):=by have:=of_decide_eq_false d6.out;omega
       go_wp2;go_meet
       case rel=>exact⟨by rw[←j.out];rfl,F2.out⟩
      ·have h0:(0:Int)<(deep:Int):=by have:=of_decide_eq_true d6.out;omega
       go_wp2_with fail;refine(H2.out w2 F2.out).mono ?_;rintro e w3 ⟨rfl,f3⟩;go_wp2;go_meet
       case rel=>exact⟨by rw[←j.out];rfl,F2.out.trans' f3⟩
     ·go_wp2;go_meet
      case rel=>exact⟨by rw[←j.out];rfl,F2.out⟩
    ·go_wp2;go_meet
     case rel=>exact⟨by rw[←j.out];rfl,F1.out⟩
   case rest=>
   obtain⟨rfl,f1⟩:=hcut;have F1:=hid f1;clear f1 b1 H1 H2;cases st with
   |true=>
    have hF:=HF.out;have h2:F=.inr (Za2 ps,s):=by
     by_cases ho:l.length≤s.at_
     ·rw[Zfi ho]at hF;exact hF.symm
     ·rw[ZdH (by omega) (by have h:=j.out;rw[←HE.out.1,decide_eq_false ho]at h;rw[HE.out.2.1];exact h)]at hF;exact hF.symm
    subst h2;clear hF HF;go_wp2_with fail;refine(HJ.out _ F1.out).mono ?_;rintro e wj ⟨r,rfl,c0,fj⟩;obtain⟨ij,yj,rfl⟩:=c0.some (Zhm (joined_brn HU.out));have h6:=hid c0;have FJ:=hid (F1.out.trans' fj);clear c0 fj;go_wp2;go_ret;exact⟨ij,yj,S1,rfl,h6.out,HR.out.on FJ.out,i.out.trans (Stp.of FJ.out)⟩
   |false=>
   have y:=j.out;rw[Bool.or_eq_false_iff]at y;have ha:s.at_<l.length:=by have:=of_decide_eq_false (HE.out.1.trans y.1);omega
   have o:=hid (HE.out.2.1.trans y.2);clear y j
   go_upto_region 7 with(fail)
   go_cut [43] (fun v w'=>v=.bool a5∧Fr nob wr w')
   case first=>
    cases q
    ·go_wp2;go_meet
     case rel=>exact⟨by rw[←R.out];rfl,F1.out⟩
    ·go_wp2_with fail;refine(H3.out _ F1.out).mono ?_;rintro e w4 ⟨rfl,f4⟩;have F4:=hid (F1.out.trans' f4);clear f4;cases e3
     ·go_wp2_with fail;refine(H4.out _ F4.out).mono ?_;rintro e w5 ⟨rfl,f5⟩;have F5:=hid (F4.out.trans' f5);clear f5;cases e4
      ·go_wp2_with fail;refine(H5.out _ F5.out).mono ?_;rintro e w6 ⟨rfl,f6⟩;go_wp2;go_meet
       case rel=>exact⟨by rw[←R.out];rfl,F5.out.trans' f6⟩
      ·go_wp2;go_meet
       case rel=>exact⟨by rw[←R.out];rfl,F5.out⟩
     ·go_wp2;go_meet
      case rel=>exact⟨by rw[←R.out];rfl,F4.out⟩
   case rest=>
   obtain⟨rfl,fz⟩:=hcut;have FZ:=hid fz;clear fz H3 H4 H5 F1;cases a5 with
   |true=>
    have hF:=HF.out;rw[Zd6 ha o.out HE.out.2.2.1]at hF;subst hF;clear HF;obtain⟨i5,i4,d2⟩:=HR.out.on FZ.out;obtain⟨⟨_,q1,_⟩,_,q2,_⟩:=Zd d2.blk _ (Fr.refl _ _);clear d2;go_wp2_with(go_at_call 231;(with_reducible refine(br_fail 10 s.at_ _).mono ?_);rintro e w' ⟨rfl,rfl⟩);exact⟨rfl,rfl,S1,i.out.trans (Stp.of FZ.out)⟩
   |false=>
   obtain⟨x,hx⟩:∃x,l[s.at_]=x:=⟨_,rfl⟩;have e9:=hid (fun(w':World) (f:Fr nob wr w')=>by have:=Zko b l s S1 w' (by omega) ha (HR.out.on f);rwa[g0.out]at this);have V:=hid (fun(w':World) (f:Fr nob wr w')=>ZkA b l W0 deep C s S1 (PO O v5) w' x ((HP.out.on f).lt (fun k hk=>Nat.lt_of_lt_of_le (A.out k hk) (Nat.le_trans i.out.fr.size f.size))) hl hd h5.out HG.out t.out ha hx (b6.out.stp (Stp.of f)) (HR.out.on f));clear HJ
   go_upto_region 9 with(fail)
   go_cut [54] (fun v w'=>v=.bool L∧Fr nob wr w')
   case first=>
    go_wp2_with fail;refine(H6.out _ FZ.out).mono ?_;rintro e w6 ⟨rfl,f6⟩;have F6:=hid (FZ.out.trans' f6);clear f6;cases e6
    ·go_wp2;go_meet
     case rel=>exact⟨by rw[←a0.out];rfl,F6.out⟩
    ·go_wp2_with fail;refine(e9.out w6 F6.out).mono ?_;rintro e w7 ⟨rfl,f7⟩;go_wp2;go_meet
     case rel=>exact⟨by rw[←a0.out];rfl,F6.out.trans' f7⟩
   case rest=>
   obtain⟨rfl,f7⟩:=hcut;have F7:=hid f7;clear f7 H6 e9 FZ;cases L with
   |true=>
    have hF:=HF.out;rw[Zfj ha o.out HE.out.2.2.1 HE.out.2.2.2]at hF;have b3:=hid hF;clear HF hF V hx;obtain⟨h7,i1,U⟩:=HR.out.on F7.out;obtain⟨⟨_,q1,_⟩,_,q2,_⟩:=Zd U.blk _ (Fr.refl _ _);obtain⟨w8,Q⟩:∃w8,w8=wc.setCell ⟨b,1,none⟩ (.int .i64 ((s.at_:Int)+1)):=⟨_,rfl⟩;have f8:Rdg b l (s.go 1) S1 w8:=⟨h7,i1,by rw[Q];exact U.turned 1 _ (s.go 1) (by simp[RxS.go]) rfl rfl⟩;have K:Stp S1 wr S1 w8:=by rw[Q];exact(Stp.of F7.out).trans (U.stp 1 _)
    have f0:w8.heap.size=wc.heap.size:=by rw[Q];simp[World.setCell]
    have h4:=hid f8;have h8:=hid K;have h3:=hid Q;have g9:=hid (HP.out.stp K);have g1:=hid (b6.out.stp K).lt;have a7:=hid (show∀k,O k→k<w8.heap.size from fun k hk=>Nat.lt_of_lt_of_le (A.out k hk) (Nat.le_trans i.out.fr.size K.fr.size));have Z:=hid (Nat.le_trans i.out.fr.size K.fr.size);have h9:=Nd.length_le ps;clear U f8 K Q;go_wp2_with(first|(rw[←h3.out])|(at_builtin;refine wpList_append_pts (W:=w) (S:=S1) (O:=O) rfl (.tmp 62) (.tmp 65) rfl ps .fin v5 _ _ _ (by rw[c8.out];rfl) g9.out g1.out a7.out Z.out f0.symm (by rfl) (by rw[RN]) (by omega) ?_;intro v9 w9 c7 Y;obtain⟨a9,c9,d1⟩:=c7.shape;simp only[List.length_append,List.length_singleton]at d1;subst d1;have c6:=hid c7;have g2:=hid Y;clear c7 Y));go_roundg m
    case measure=>omega
    case rel=>
     refine⟨false,s.go 1,ps++[.fin],S1,rfl,c6.out,h4.out.off g2.out,(i.out.trans h8.out).off g2.out,t.out.go (by omega),?_,?_,HU.out.snoc rfl,b3.out⟩
     ·show l.length<m+(s.at_+1);omega
     ·rw[Nd.sizes_append];show Nd.sizes ps+(1+0)≤s.at_+1;omega
   |false=>
    have hF:=HF.out;rw[ZeD ha o.out HE.out.2.2.1 HE.out.2.2.2]at hF;unfold ZjJ at hF;rw[hx]at hF;have H8:=hid (V.out wc F7.out);clear HE R a0 g0 o;cases P:Zb0 prg l C s x with
    |inl z=>
     obtain⟨z1,z2⟩:=z;rw[P]at hF H8;subst hF;clear HF V;go_wp2_with fail;refine(H8.out).mono ?_;rintro e w8 ⟨rfl,S2,t8⟩;exact⟨rfl,rfl,S2,(i.out.trans (Stp.of F7.out)).trans t8⟩
    |inr z=>
     obtain⟨n1,s1⟩:=z;rw[P]at hF H8;simp only at hF;obtain⟨k1,k2,k3⟩:=Zbw HC.out t.out ha P;have i2:=atomS_unit P;clear HF V P;go_wp2_with fail;refine(H8.out).mono ?_;rintro e w8 ⟨i8,y8,S2,rfl,d3,r8,t8⟩;have T8:=hid ((Stp.of F7.out).trans t8);have H9:=hid (ZbP b l s1 n1 i8 y8 S2 (PO O v5) w8 hl k1.le k1.mr d3 r8);clear d3 r8 t8 H8;cases M:ZbW prg l (l.length+1) s1 n1 with
     |inl z=>
      obtain⟨z1,z2⟩:=z;rw[M]at hF H9;subst hF;go_wp2_with fail;refine(H9.out).mono ?_;rintro e w9 ⟨rfl,S3,t9⟩;exact⟨rfl,rfl,S3,(i.out.trans T8.out).trans t9⟩
     |inr z=>
      obtain⟨n2,s2⟩:=z;rw[M]at hF H9;simp only at hF;obtain⟨j1,j2,j3⟩:=ZaA _ _ _ _ _ k1 M;have g4:=repS_unit _ _ _ _ _ i2 M;have b3:=hid hF;clear M hF;go_wp2_with fail;refine(H9.out).mono ?_;rintro e w9 ⟨i9,y9,S3,rfl,g8,r9,t9⟩;have T9:=hid (T8.out.trans t9);have h1:=hid g8;have R9:=hid r9;clear g8 r9 t9 H9;have c6:=hid (HP.out.stp T9.out);have d8:=hid (b6.out.stp T9.out).lt;have a7:=hid (show∀k,O k→k<w9.heap.size from fun k hk=>Nat.lt_of_lt_of_le (A.out k hk) (Nat.le_trans i.out.fr.size T9.out.fr.size));have Z:=hid (Nat.le_trans i.out.fr.size T9.out.fr.size);have h9:=Nd.length_le ps;go_wp2_with(at_builtin;refine wpList_append_pts (W:=w) (S:=S3) (O:=O) rfl (.tmp 67) (.tmp 73) rfl ps n2 v5 _ _ _ (by rw[c8.out];rfl) c6.out d8.out a7.out Z.out rfl (by rfl) h1.out (by omega) ?_;intro va wa b8 X;obtain⟨aa,ca,f9⟩:=b8.shape;simp only[List.length_append,List.length_singleton]at f9;subst f9;have i0:=hid b8;have d4:=hid X;clear b8 X)
      go_roundg m
      case measure=>omega
      case rel=>
       refine⟨false,s2,ps++[n2],S3,rfl,i0.out,R9.out.off d4.out,(i.out.trans T9.out).off d4.out,j1,by omega,?_,HU.out.snoc g4,b3.out⟩;rw[Nd.sizes_append];show Nd.sizes ps+(n2.size+0)≤s2.at_;omega
theorem Zhn{w:World}{b:Nat}{v:Value}{e:TypeId}(h:w.heap[b]? =some (.cells #[v] e (0,0))):w.ownsRow 0 e 1 (.slice (some ⟨b,0,none⟩) 1 1) 1 [v]:=by
 refine⟨by simp,.inr ⟨b,1,#[v],rfl,Nat.zero_le _,h,by simp,by simp[maxLen],by simp,by simp⟩⟩
theorem Pts.one{S O:Nat→Prop}{W w0:World}{t:Nd}{val:Value}{b:Nat}(hv:RN (SO S O) w0 t val)(hlt:∀k,S k→k<w0.heap.size)(hO:∀k,O k→k<w0.heap.size)(hW:W.heap.size≤w0.heap.size)(hb:b=w0.heap.size):
 Pts S O W (w0.alloc (.cells #[val] 26)) [t] (.slice (some ⟨b,0,none⟩) 1 1):=by
 subst hb;refine⟨⟨[val],Zhn (newAt0 w0 _),⟨val,[],rfl,?_,rfl⟩,rfl⟩,fun k hk=> ?_⟩
 ·refine RN.keep ((Fr.refl nob w0).alloc _) (fun _ _ x=>x.elim) (fun k hk x=> ?_) _ _ hv;rcases x with x|x
  ·exact x
  ·have x:some w0.heap.size=some k:=x;injection x with x;omega
 ·have hk:some w0.heap.size=some k:=hk;injection hk with hk;exact⟨fun x=>by have:=hlt k x;omega,by omega⟩
section
variable {l:List UInt8} {C:Option (RxS→Out Nd)} {inner:Bool} {n:Nat} {s:RxS} {ts:List Nd}
theorem Zjk(h:ahd l s.at_ [92,124]=false):Za1 prg l C inner (n+1) s ts=.inr (Za3 ts,s):=by
 rw[Za1,if_neg (by rw[h];decide)];rfl
theorem Zjl(h:ahd l s.at_ [92,124]=true){e:Int×Nat}(hb:branchS prg l C inner ((s.mark [92,124]).go 2)=.inl e):Za1 prg l C inner (n+1) s ts=.inl e:=by
 rw[Za1,if_pos h,hb]
theorem ZkC(h:ahd l s.at_ [92,124]=true){t:Nd}{s':RxS}(hb:branchS prg l C inner ((s.mark [92,124]).go 2)=.inr (t,s')):Za1 prg l C inner (n+1) s ts=Za1 prg l C inner n s' (ts++[t]):=by
 rw[Za1,if_pos h,hb]
end
def Zqu(b:Nat)(l:List UInt8)(C:Option (RxS→Out Nd))(inner:Bool)(S O:Nat→Prop)(w:World)(F:Out Nd)(n:Nat)(v5:Value)(wr:World):Prop:=
 ∃s ts S',Pts S' O w wr ts v5∧Rdg b l s S' wr∧Stp S w S' wr∧Sane l s∧l.length<n+s.at_∧Nd.sizes ts≤s.at_+1∧Zn3 ts∧Za1 prg l C inner n s ts=F
theorem Zf6(b:Nat)(l:List UInt8)(W0:World)(deep:Nat)(C:Option (RxS→Out Nd))(s:RxS)(S O:Nat→Prop)(w:World)(hO:∀k,O k→k<w.heap.size)(hl:l.length≤100000)(hd:deep≤12)(hE0:Env W0)
 (hG:ZoT l W0 deep C) (hC:∀f,C=some f→ZcC l 2 f) (hs:Sane l s) (hW:Wd W0 S w) (h:Rdg b l s S w):
 Calls Tryz.prog 204 #[.pointer (some ⟨b,0,none⟩),.int .i64 deep] w fun x w'=>ZbO b l S O w (choiceS prg l C (decide (0<deep)) s) x w':=by
 obtain⟨F,hF⟩:∃F,choiceS prg l C (decide (0<deep)) s=F:=⟨_,rfl⟩;rw[hF];have E:=hid (fun(s:RxS) (S O:Nat→Prop) (w:World) (hO:∀k,O k→k<w.heap.size) (hs:Sane l s) (hW:Wd W0 S w) (h:Rdg b l s S w)=>ZkB b l W0 deep C s S O w hO hl hd hE0 hG hC hs hW h);obtain⟨a,Y⟩:∃a,decide (0<deep)=a:=⟨_,rfl⟩;rw[Y]at E hF;have HW:=hid hW;have HC:=hid hC;have d:=hid hO;unfold choiceS at hF;have H0:=hid (E.out s S O w hO hs hW h);clear hW hC hE0 hO h hG Y;go_enter Tryz.func204,Tryz.ntmps204;go_wp2_with fail;refine(H0.out).mono ?_;cases g:branchS prg l C a s with
 |inl z=>
  obtain⟨z1,z2⟩:=z;rw[g]at hF;subst hF;rintro e w1 ⟨rfl,S1,t1⟩;exact⟨rfl,rfl,S1,t1⟩
 |inr z=>
  obtain⟨t,s1⟩:=z;rw[g]at hF;simp only at hF;obtain⟨k1,k2,k3⟩:=Zbe HC.out _ hs _ _ g;have u:=branchS_brn g;rintro e w1 ⟨i,y,S1,rfl,K,r1,t1⟩;have U:=hid (Pts.one (W:=w) K ((HW.out.stp t1).lt) (fun k hk=>Nat.lt_of_lt_of_le (d.out k hk) t1.fr.size) t1.fr.size rfl);have R1:=hid r1;have T1:=hid t1;have HF:=hid hF;have K1:=hid k1;clear H0 g hF K r1 t1 k1 hs;go_wp2_with fail
  go_loopg [5] (l.length+1) (fun n v wr=>Zqu b l C a S O w F n v wr)
  case atStart=>exact⟨s1,[t],S1,U.out,R1.out.on ((Fr.refl _ _).alloc _),T1.out.trans (Stp.of ((Fr.refl _ _).alloc _)),K1.out,by omega,by show t.size+0≤_;omega,fun x hx=>by rw[List.mem_singleton.1 hx];exact u,HF.out⟩
  case round=>
   clear U R1 T1 K1 HF k2 k3 u;obtain⟨s,ts,S1,hp,hr,p,H,hn,hz,hu,hF⟩:=hrel;have Z:=H.le;obtain⟨m,rfl⟩:∃m,gk=m+1:=⟨gk-1,by omega⟩;obtain⟨av,cv0,hv⟩:=hp.shape;subst hv;obtain⟨v5,D⟩:∃v5,v5=Value.slice av ts.length cv0:=⟨_,rfl⟩;have HA:=hid (Zcg b l [92,124] s S1 wr (by omega) (by decide) Z hr);have HP:=hid (show Pts S1 O w wr ts v5 from D▸hp);have HR:=hid hr;have c:=hid p;have R:=hid H;have HU:=hid hu;have HF:=hid hF;have a3:=hid D;have N:=hid (HW.out.stp p);have HJ:=hid (fun(w':World) (f:Fr nob wr w')=>Zd4 (SO S1 O) ts (.slice av ts.length cv0) w' (fun k hk=>Nat.lt_of_lt_of_le (hk.elim ((HW.out.stp p).lt k) (fun x=>Nat.lt_of_lt_of_le (d.out k x) p.fr.size)) f.size) (by omega) ((hp.on f).sn d.out));clear hp hr p H hF D hu;cases e1:ahd l s.at_ [92,124]with
   |false=>
    rw[e1]at HA;have hF:=HF.out;rw[Zjk e1]at hF;subst hF;clear HF;go_wp2_with fail;refine(HA.out).mono ?_;rintro e w2 ⟨rfl,f2⟩;have F2:=hid f2;clear f2;go_wp2_with fail;refine(HJ.out _ F2.out).mono ?_;rintro e wj ⟨r,rfl,I,fj⟩;obtain⟨ij,yj,rfl⟩:=I.some (Zjj HU.out);have a7:=hid I;have FJ:=hid (F2.out.trans' fj);clear I fj;go_wp2;go_ret;exact⟨ij,yj,S1,rfl,a7.out,HR.out.on FJ.out,c.out.trans (Stp.of FJ.out)⟩
   |true=>
    have a0:=ahd_le e1 (by decide);simp only[List.length_cons,List.length_nil]at a0;rw[e1]at HA;clear HJ;go_wp2_with fail;refine(HA.out).mono ?_;rintro e w2 ⟨rfl,f2⟩;have F2:=hid f2;clear f2;go_wp2_with fail;refine(br_mark b l [92,124] s S1 w2 (by have:=R.out.mr;omega) (HR.out.on F2.out)).mono ?_;rintro e w3 ⟨rfl,S3,⟨b2,b1,A⟩,V⟩;obtain⟨⟨_,q1,_⟩,_,q2,_⟩:=Zd A.blk _ (Fr.refl _ _);rw[show(s.mark [92,124]).at_=s.at_ from rfl]at q1;obtain⟨w4,q⟩:∃w4,w4=w3.setCell ⟨b,1,none⟩ (.int .i64 ((s.at_:Int)+2)):=⟨_,rfl⟩;have a2:Rdg b l ((s.mark [92,124]).go 2) S3 w4:=⟨b2,b1,by rw[q];exact A.turned 1 _ _ (by simp[RxS.go,RxS.mark]) rfl rfl⟩;have j:Stp S1 wr S3 w4:=by rw[q];exact((Stp.of F2.out).trans V).trans (A.stp 1 _)
    have o:=R.out.markgo [92,124] (n:=2) (by omega) a0;have J:=HP.out.stp j;have H5:=hid (E.out ((s.mark [92,124]).go 2) S3 (PO O v5) w4 (J.lt (fun k hk=>Nat.lt_of_lt_of_le (d.out k hk) (Nat.le_trans c.out.fr.size j.fr.size))) o (N.out.stp j) a2);have b5:=hid J;have Q:=hid j;have a9:=hid q;have b0:=hid o;clear A V a2 j o J q HA;go_wp2_with(rw[←a9.out]);with_reducible refine(H5.out).mono ?_
    cases hb:branchS prg l C a ((s.mark [92,124]).go 2)with
    |inl z=>
     obtain⟨z1,z2⟩:=z;have hF:=HF.out;rw[Zjl e1 hb]at hF;subst hF;rintro e w5 ⟨rfl,S5,t5⟩;exact⟨rfl,rfl,S5,(c.out.trans Q.out).trans t5⟩
    |inr z=>
     obtain⟨t5,s5⟩:=z;have hF:=HF.out;rw[ZkC e1 hb]at hF;obtain⟨j1,j2,j3⟩:=Zbe HC.out _ b0.out _ _ hb;have u:=branchS_brn hb;have j2:s.at_+2≤s5.at_:=j2;have j3:t5.size+(s.at_+2)≤s5.at_+1:=j3;rintro e w5 ⟨i5,y5,S5,rfl,a1,r5,M⟩;have T5:=hid (Q.out.trans M);have b4:=hid a1;have R5:=hid r5;have a8:=hid hF;clear hF a1 r5 M H5 HF e1 hb;have a5:=hid (HP.out.stp T5.out);have X:=hid (N.out.stp T5.out).lt;have a6:=hid (show∀k,O k→k<w5.heap.size from fun k hk=>Nat.lt_of_lt_of_le (d.out k hk) (Nat.le_trans c.out.fr.size T5.out.fr.size));have a4:=hid (Nat.le_trans c.out.fr.size T5.out.fr.size);have b6:=Nd.length_le ts;go_wp2_with(at_builtin;refine wpList_append_pts (W:=w) (S:=S5) (O:=O) rfl (.tmp 21) (.tmp 25) rfl ts t5 v5 _ _ _ (by rw[a3.out];rfl) a5.out X.out a6.out a4.out rfl (by rfl) b4.out (by omega) ?_;intro va wa G B;obtain⟨aa,ca,P⟩:=G.shape;simp only[List.length_append,List.length_singleton]at P;subst P;have b3:=hid G;have L:=hid B;clear G B)
     go_roundg m
     case measure=>omega
     case rel=>
      refine⟨s5,ts++[t5],S5,b3.out,R5.out.off L.out,(c.out.trans T5.out).off L.out,j1,by omega,?_,HU.out.snoc u,a8.out⟩;rw[Nd.sizes_append];show Nd.sizes ts+(t5.size+0)≤s5.at_+1;omega
theorem ZkD(l:List UInt8)(W0:World)(hl:l.length≤100000)(hE0:Env W0):∀n deep,n+deep=12→ZqO l W0 deep (chS prg l n)
 |0,deep,hd=>by
  obtain rfl:deep=12:=by omega
  intro b s S O w hO hs hW h;have hG:ZoT l W0 12 none:=fun b s S O w p _ _ _ _ _=>Zfh b l s S O w p;have:=Zf6 b l W0 12 none s S O w hO hl (Nat.le_refl _) hE0 hG (fun f hf=>by cases hf) hs hW h;rw[chS];exact this
 |n+1,deep,hd=>by
  intro b s S O w hO hs hW h;have ih:=ZkD l W0 hl hE0 n (deep+1) (by omega);have hG:ZoT l W0 deep (some (chS prg l n)):=fun b s S O w p hO hs h1 hW h=>Zmk b l W0 deep (chS prg l n) s S O w p hO hl (by omega) ih (chS_kept n).kept hs h1 hW h;have:=Zf6 b l W0 deep (some (chS prg l n)) s S O w hO hl (by omega) hE0 hG (fun f hf=>by injection hf with hf;subst hf;exact chS_kept n) hs hW h;rw[chS,show decide (n+1<12)=decide (0<deep)from by congr 1;exact propext ⟨fun _=>by omega,fun _=>by omega⟩];exact this
structure Four(w:World)(b0 b1 b2 b3:Nat)(v0 v1 v2 v3:Value):Prop where
 h0:w.heap[b0]? =some (.cells #[v0] 26 (0,0))
 h1:w.heap[b1]? =some (.cells #[v1] 36 (0,0))
 h2:w.heap[b2]? =some (.cells #[v2] 3 (0,0))
 h3:w.heap[b3]? =some (.cells #[v3] 37 (0,0))
 n01:b0≠b1
 n02:b0≠b2
 n03:b0≠b3
 n12:b1≠b2
 n13:b1≠b3
 n23:b2≠b3
theorem Four.drew{w:World}{b0 b1 b2 b3:Nat}{v0 v1 v2 v3:Value}(h:Four w b0 b1 b2 b3 v0 v1 v2 v3):Four w.drew b0 b1 b2 b3 v0 v1 v2 v3:=
 ⟨h.h0,h.h1,h.h2,h.h3,h.n01,h.n02,h.n03,h.n12,h.n13,h.n23⟩
theorem Zin{w:World}{b0 b1 b2 b3:Nat}{v0 v1 v2 v3:Value}(h:Four w b0 b1 b2 b3 v0 v1 v2 v3)(u0 u1 u2 u3:Value):
 Four ((((w.setCell ⟨b0,0,none⟩ u0).setCell ⟨b1,0,none⟩ u1).setCell ⟨b2,0,none⟩ u2).setCell ⟨b3,0,none⟩ u3) b0 b1 b2 b3 u0 u1 u2 u3∧
  Fr (fun k=>k=b0∨k=b1∨k=b2∨k=b3) w ((((w.setCell ⟨b0,0,none⟩ u0).setCell ⟨b1,0,none⟩ u1).setCell ⟨b2,0,none⟩ u2).setCell ⟨b3,0,none⟩ u3):=by
 obtain⟨h0,h1,h2,h3,d,b,a,e,f,c⟩:=h;have k0:=Zc (p:=⟨b3,0,none⟩) (Zc (p:=⟨b2,0,none⟩) (Zc (p:=⟨b1,0,none⟩) (Za h0 0 u0) d u1) b u2) a u3;have k1:=Zc (p:=⟨b3,0,none⟩) (Zc (p:=⟨b2,0,none⟩) (Za (Zc (p:=⟨b0,0,none⟩) h1 (Ne.symm d) u0) 0 u1) e u2) f u3;have k2:=Zc (p:=⟨b3,0,none⟩) (Za (Zc (p:=⟨b1,0,none⟩) (Zc (p:=⟨b0,0,none⟩) h2 (Ne.symm b) u0) (Ne.symm e) u1) 0 u2) c u3;have k3:=Za (Zc (p:=⟨b2,0,none⟩) (Zc (p:=⟨b1,0,none⟩) (Zc (p:=⟨b0,0,none⟩) h3 (Ne.symm a) u0) (Ne.symm f) u1) (Ne.symm c) u2) 0 u3;refine⟨⟨k0,k1,k2,k3,d,b,a,e,f,c⟩,?_⟩;exact((((Fr.refl (fun k=>k=b0∨k=b1∨k=b2∨k=b3) w).setCell (p:=⟨b0,0,none⟩) (fun _=>.inl rfl) u0).setCell (p:=⟨b1,0,none⟩) (fun _=>.inr (.inl rfl)) u1).setCell (p:=⟨b2,0,none⟩) (fun _=>.inr (.inr (.inl rfl))) u2).setCell (p:=⟨b3,0,none⟩) (fun _=>.inr (.inr (.inr rfl))) u3
abbrev CQ(w:World)(b:Nat)(v0 v1:Value):Prop:=w.cell? ⟨b,0,none⟩=some v0∧w.cell? ⟨b,1,none⟩=some v1
theorem CQ.drew{w:World}{b:Nat}{v0 v1:Value}(h:CQ w b v0 v1):CQ w.drew b v0 v1:=h
theorem CQ.set{w:World}{b c j:Nat}{v0 v1:Value}(h:CQ w b v0 v1)(hn:c≠b)(u:Value):CQ (w.setCell ⟨c,j,none⟩ u) b v0 v1:=⟨Zm h.1 hn,Zm h.2 hn⟩
theorem Zho(p0 p1 p2 p3:Value)(w:World):
 CallsD Tryz.prog 203 #[p0,p1,p2,p3] .returning w fun e u' w'=>e=.returned (.tuple #[])∧u'=.returning∧w'=w:=by
 refine callsD_of_wpS Tryz.func203 rfl fun c₀ cs hu=> ?_;apply wpS_seq;apply wpS_region;simp[wpOpsS,go_sem,recoverD,hu,Tryz.ntmps203,Exit.thenS];refine wpS_of_wp ?_;go_wp2;cases c₀
 simp_all [bodyPostS,results,Tryz.results203]
theorem ZdA(b0 b1 b2 b3:Nat)(v0 v1 v2 v3:Value)(z:Int)(p:Nat)(older:List PanicEntry)(w:World)(h:Four w b0 b1 b2 b3 v0 v1 v2 v3):
 CallsD Tryz.prog 203 #[.pointer (some ⟨b0,0,none⟩),.pointer (some ⟨b1,0,none⟩),.pointer (some ⟨b2,0,none⟩),.pointer (some ⟨b3,0,none⟩)] (.panicking ({v:=.iface 285 (.agg #[.int .i64 z,.int .i64 (p:Nat)]),recovered:=false}::older)) w fun e u' w'=>
  e=.returned (.tuple #[])∧u'=.panicking ({v:=.iface 285 (.agg #[.int .i64 z,.int .i64 (p:Nat)]),recovered:=true}::older)∧Four w' b0 b1 b2 b3 .nilIface (.slice none 0 0) (.int .i64 (p:Nat)) (.int .i64 z)∧Fr (fun k=>k=b0∨k=b1∨k=b2∨k=b3) w w':=by
 refine callsD_of_wpS Tryz.func203 rfl fun c₀ cs hu=> ?_;apply wpS_seq;apply wpS_region;simp[wpOpsS,go_sem,recoverD,hu,Tryz.ntmps203,Exit.thenS];obtain⟨h0,h1,h2,h3,g,r,q,m,n,l⟩:=h;have c0:=cell_at (j:=0) (v:=v0) h0 rfl;have c1:=cell_at (j:=0) (v:=v1) h1 rfl;have c2:=cell_at (j:=0) (v:=v2) h2 rfl;have c3:=cell_at (j:=0) (v:=v3) h3 rfl;have d0:=unfrozen_at h0 0;have d1:=unfrozen_at h1 0;have d2:=unfrozen_at h2 0;have d3:=unfrozen_at h3 0;have l0:=lt_heap h0;have l1:=lt_heap h1;have l2:=lt_heap h2;have l3:=lt_heap h3;have has:=fun(x:TypeId) (v:Value) (w:World)=>Zfe (P:=Tryz.prog) (x:=x) Tryz.underlying285 v w;have hz:=newAt0 w (.cells #[.int .i64 z,.int .i64 (p:Nat)] 285);obtain⟨wA,d⟩:∃wA,wA=w.alloc (.cells #[.int .i64 z,.int .i64 (p:Nat)] 285):=⟨_,rfl⟩;have a:Fr nob w wA:=by rw[d];exact(Fr.refl nob w).alloc _
 rw[←d]at hz;obtain⟨c,hc⟩:∃c,c=w.heap.size:=⟨_,rfl⟩;rw[←hc]at hz;have b:CQ wA c (.int .i64 z) (.int .i64 (p:Nat)):=⟨cell_at hz rfl,cell_at hz rfl⟩;have e0:=b.1;have e1:=b.2;have HQ:=hid b;have i:=hid (CQ.drew b);have m0:b0≠c:=by omega
 have m1:b1≠c:=by omega
 have m2:b2≠c:=by omega
 have m3:b3≠c:=by omega
 have H0:=hid (a.heap h0 (fun x=>x));have H1:=hid (a.heap h1 (fun x=>x));have H2:=hid (a.heap h2 (fun x=>x));have H3:=hid (a.heap h3 (fun x=>x));have HA:=hid a;have o:=hid d;have f:=hid hc;clear h0 h1 h2 h3 hz b a c0 c1 c2 c3 d0 d1 d2 d3;have c0:=cell_at (j:=0) (v:=v0) H0.out rfl;have c1:=cell_at (j:=0) (v:=v1) H1.out rfl;have c2:=cell_at (j:=0) (v:=v2) H2.out rfl;have c3:=cell_at (j:=0) (v:=v3) H3.out rfl;have d0:=unfrozen_at H0.out 0;have d1:=unfrozen_at H1.out 0;have d2:=unfrozen_at H2.out 0;have d3:=unfrozen_at H3.out 0;clear d hc;refine wpS_of_wp ?_;go_wp2_with(rw[←o.out,←f.out])
 go_region_held3 (fun w'=>CQ w' c (.int .i64 z) (.int .i64 (p:Nat))) (repeat(first|(with_reducible exact HQ.out)|(with_reducible exact i.out)|(with_reducible refine CQ.set ?_ (by assumption) _)|(with_reducible refine CQ.drew ?_))) (fail)
 all_goals
  go_wp2;have hR:=Zin (w:=wA) ⟨H0.out,H1.out,H2.out,H3.out,g,r,q,m,n,l⟩ .nilIface (.slice none 0 0) (.int .i64 (p:Nat)) (.int .i64 z);have HR:=hid hR;clear hR;simp[bodyPostS,results,Tryz.results203];exact⟨HR.out.1.drew,(HA.out.any.trans HR.out.2 (fun _ _ x=>x)).drew⟩
theorem Zio(w:World)(v0 v1 v2 v3:Value):Four ((((w.alloc (.cells #[v0] 26)).alloc (.cells #[v1] 36)).alloc (.cells #[v2] 3)).alloc (.cells #[v3] 37)) w.heap.size (w.heap.size+1) (w.heap.size+1+1) (w.heap.size+1+1+1) v0 v1 v2 v3:=
 ⟨Ze _ (Ze _ (Ze _ (newAt0 w _))),Ze _ (Ze _ (Zg _ _ _ (by simp))),Ze _ (Zg _ _ _ (by simp)),Zg _ _ _ (by simp),by omega,by omega,by omega,by omega,by omega,by omega⟩
theorem Zhp{X:Nat→Prop}{w w':World}{b0 b1 b2 b3:Nat}{v0 v1 v2 v3:Value}(h:Four w b0 b1 b2 b3 v0 v1 v2 v3)(f:Fr X w w')(hX:∀k,(k=b0∨k=b1∨k=b2∨k=b3)→¬X k):Four w' b0 b1 b2 b3 v0 v1 v2 v3:=
 ⟨f.heap h.h0 (hX _ (.inl rfl)),f.heap h.h1 (hX _ (.inr (.inl rfl))),f.heap h.h2 (hX _ (.inr (.inr (.inl rfl)))),f.heap h.h3 (hX _ (.inr (.inr (.inr rfl)))),h.n01,h.n02,h.n03,h.n12,h.n13,h.n23⟩
abbrev PQ(w:World)(b c:Nat)(v0 v4:Value):Prop:=w.cell? ⟨b,0,none⟩=some v0∧w.cell? ⟨c,4,none⟩=some v4
theorem PQ.drew{w:World}{b c:Nat}{v0 v4:Value}(h:PQ w b c v0 v4):PQ w.drew b c v0 v4:=h
theorem PQ.set{w:World}{b c k j:Nat}{v0 v4:Value}(h:PQ w b c v0 v4)(hb:k≠b)(hc:k≠c)(u:Value):PQ (w.setCell ⟨k,j,none⟩ u) b c v0 v4:=⟨Zm h.1 hb,Zm h.2 hc⟩
theorem PQ.same{w:World}{b c:Nat}{v0 v4:Value}(h:PQ w b c v0 v4)(hc:b≠c):PQ (w.setCell ⟨b,0,none⟩ v0) b c v0 v4:=⟨World.cell?_setCell_same' _ _ _ (by rw[h.1];rfl),Zm h.2 hc⟩
def BreAnsO(R:Out Nd)(w:World)(e:Ending)(w':World):Prop:=Fr nob w w'∧match R with
 | .inl (z,p)=>e=.returned (.tuple #[.nilIface,.slice none 0 0,.int .i64 (p:Nat),.int .i64 z])
 | .inr (t,s)=>∃i y mv,e=.returned (.tuple #[.iface i y,mv,.int .i64 0,.int .i64 0])∧RN (fun k=>k<w.heap.size) w' t (.iface i y)∧OwM w' s.marks mv∧∀k,mv.ownBlock=some k→w.heap.size≤k
theorem ZeE(l:List UInt8)(w:World)(hl:l.length≤100000)(hE:Env w):
 Calls Tryz.prog 179 #[.string ⟨l.toArray⟩] w (BreAnsO (Zey prg l) w):=by
 have a7:=ZfW;by_cases r:250<l.length
 ·have Y:(250:Int)<(l.length:Int):=by omega
  unfold Zey;rw[if_pos r]
  go_enter_defers Tryz.func179,Tryz.ntmps179
  go_wp2;have hF:=Zio w .nilIface (.slice none 0 0) (.int .i64 250) (.int .i64 3);have k0:=cell_at (j:=0) (v:=.nilIface) hF.h0 rfl;have k1:=cell_at (j:=0) (v:=.slice none 0 0) hF.h1 rfl;have k2:=cell_at (j:=0) (v:=.int .i64 250) hF.h2 rfl;have k3:=cell_at (j:=0) (v:=.int .i64 3) hF.h3 rfl;have FW:=hid (((((Fr.refl nob w).alloc (.cells #[.nilIface] 26)).alloc (.cells #[.slice none 0 0] 36)).alloc (.cells #[.int .i64 250] 3)).alloc (.cells #[.int .i64 3] 37));simp[bodyPostD,Leaves,settle,results,Tryz.results179,go_sem,BreAnsO];exact FW.out
 ·have Y:¬(250:Int)<(l.length:Int):=by omega
  unfold Zey;rw[if_neg r];obtain⟨F,hF⟩:∃F,chS prg l 12 ⟨0,0,[],[]⟩=F:=⟨_,rfl⟩;rw[hF];obtain⟨w4,c⟩:∃w4,w4=(((w.alloc (.cells #[.nilIface] 26)).alloc (.cells #[.slice none 0 0] 36)).alloc (.cells #[.int .i64 0] 3)).alloc (.cells #[.int .i64 0] 37):=⟨_,rfl⟩;have P:w4.heap.size=w.heap.size+1+1+1+1:=by rw[c];simp
  have C:Fr nob w w4:=by rw[c];exact(((((Fr.refl nob w).alloc _).alloc _).alloc _).alloc _)
  have h4:Four w4 w.heap.size (w.heap.size+1) (w.heap.size+1+1) (w.heap.size+1+1+1) .nilIface (.slice none 0 0) (.int .i64 0) (.int .i64 0):=by rw[c];exact Zio w _ _ _ _
  obtain⟨w5,d⟩:∃w5,w5=w4.alloc (.cells #[.string ⟨l.toArray⟩,.int .i64 0,.int .i64 0,.slice none 0 0,.slice none 0 0] 288):=⟨_,rfl⟩;have a:Fr nob w4 w5:=by rw[d];exact(Fr.refl nob w4).alloc _
  have L:w5.heap.size=w4.heap.size+1:=by rw[d];simp
  obtain⟨b,hb⟩:∃b,b=w4.heap.size:=⟨_,rfl⟩;have hB:Br b l ⟨0,0,[],[]⟩ (fun k=>k=b) (.slice none 0 0) (.slice none 0 0) w5:=
   ⟨by rw[d,hb];exact newAt0 w4 _,World.ownsRow_nil _ _ _ _,World.ownsRow_nil _ _ _ _,fun _ h=>(by cases h),fun _ h=>(by cases h),fun _ h=>(by cases h),rfl⟩
  have hO:∀k,k<b→k<w5.heap.size:=fun k hk=>by omega
  have m:=ZkD l w hl hE 12 0 rfl b ⟨0,0,[],[]⟩ (fun k=>k=b) (fun k=>k<b) w5 hO ⟨Nat.zero_le _,Nat.le_refl _,Nat.le_refl _,Nat.le_refl _⟩ ⟨C.trans' a,fun k hk=>by subst hk;omega,fun k hk=>by subst hk;omega⟩ ⟨_,_,hB⟩;rw[hF]at m;have h5:=Zhp (X:=nob) h4 a (fun _ _ x=>x);have R:b=w.heap.size+1+1+1+1:=by omega
  rw[show((0:Nat):Int)=0 from rfl]at m;subst R;have W:=hid m;have H5:=hid h5;have V:=hid c;have a4:=hid d;have E:=hid (C.trans' a);have I:=hid (show w5.heap.size=w.heap.size+5 by omega);have a2:∀s6 S6 w6,Rdg (w.heap.size+1+1+1+1) l s6 S6 w6→Rdg (w.heap.size+1+1+1+1) l s6 S6 w6:=fun _ _ _ h=>h;clear m h5 h4 c d hB hO hF hb P C a hE L a2
  go_enter_defers Tryz.func179,Tryz.ntmps179
  go_wp2_with(rw[←V.out,←a4.out]);refine(W.out).mono ?_;cases F with
  |inl q=>
   obtain⟨z,p⟩:=q;rintro e w6 ⟨rfl,S6,t6⟩;have h6:=Zhp H5.out t6.fr (fun k hk x=>by have x:k=w.heap.size+1+1+1+1:=x;omega);have F6:Fr nob w w6:=E.out.trans t6.fr (fun i hi x=>by have x:i=w.heap.size+1+1+1+1:=x;omega);refine leaves_cons (f:=203) (args:= #[.pointer (some ⟨w.heap.size,0,none⟩),.pointer (some ⟨w.heap.size+1,0,none⟩),.pointer (some ⟨w.heap.size+1+1,0,none⟩),.pointer (some ⟨w.heap.size+1+1+1,0,none⟩)]) (by simp) (by simp[go_sem]) ?_;refine(ZdA _ _ _ _ _ _ _ _ z p [] _ h6).mono ?_;rintro e u' w7 ⟨rfl,rfl,h7,f7⟩;have k0:=cell_at (j:=0) (v:=.nilIface) h7.h0 rfl;have k1:=cell_at (j:=0) (v:=.slice none 0 0) h7.h1 rfl;have k2:=cell_at (j:=0) (v:=.int .i64 (p:Nat)) h7.h2 rfl;have k3:=cell_at (j:=0) (v:=.int .i64 z) h7.h3 rfl;have FW:=hid (show Fr nob w w7 from F6.trans f7 (fun i hi x=>by omega));clear h7 f7 F6 h6 t6;simp[Leaves,settle,results,Tryz.results179,go_sem,BreAnsO,k0,k1,k2,k3]
   exact FW.out
  |inr q=>
   obtain⟨t,s⟩:=q;rintro e w6 ⟨i,y,S6,rfl,H,⟨cv,mv,g⟩,t6⟩;have h6:=Zhp H5.out t6.fr (fun k hk x=>by have x:k=w.heap.size+1+1+1+1:=x;omega);have F6:Fr nob w w6:=E.out.trans t6.fr (fun i hi x=>by have x:i=w.heap.size+1+1+1+1:=x;omega);obtain⟨w7,n⟩:∃w7,w7=w6.setCell ⟨w.heap.size,0,none⟩ (.iface i y):=⟨_,rfl⟩;have c0:=cell_at (j:=0) (v:=.nilIface) h6.h0 rfl;have d0:=unfrozen_at h6.h0 0;have h7:Four w7 w.heap.size (w.heap.size+1) (w.heap.size+1+1) (w.heap.size+1+1+1) (.iface i y) (.slice none 0 0) (.int .i64 0) (.int .i64 0):=by
    rw[n];exact⟨Za h6.h0 0 _,Zc h6.h1 (Ne.symm h6.n01) _,Zc h6.h2 (Ne.symm h6.n02) _,Zc h6.h3 (Ne.symm h6.n03) _,h6.n01,h6.n02,h6.n03,h6.n12,h6.n13,h6.n23⟩
   have B:Fr (fun k=>k=w.heap.size) w6 w7:=by rw[n];exact(Fr.refl (fun k=>k=w.heap.size) w6).setCell (p:=⟨w.heap.size,0,none⟩) (fun _=>rfl) _
   have e4:w7.cell? ⟨w.heap.size+1+1+1+1,4,none⟩=some mv:=B.cell (cell_at g.blk rfl) (fun x=>by simp only at x;omega);have c7:=cell_at (j:=0) (v:=.iface i y) h7.h0 rfl;have S:=cell_at (j:=0) (v:=.slice none 0 0) h7.h1 rfl;have a6:=cell_at (j:=0) (v:=.int .i64 0) h7.h2 rfl;have U:=cell_at (j:=0) (v:=.int .i64 0) h7.h3 rfl;have d7:=unfrozen_at h7.h0 0;have a3:=unfrozen_at h7.h1 0;have Z:=unfrozen_at h7.h2 0;have a5:=unfrozen_at h7.h3 0;obtain⟨am,cm,a1⟩:=Zb g.ma;subst a1;have A:PQ w7 w.heap.size (w.heap.size+1+1+1+1) (.iface i y) (.slice am s.marks.length cm):=⟨c7,e4⟩;have HQ:=hid A;have O:=hid (PQ.drew A);have N:=hid n;have H7:=hid h7;have M:=hid H;have T6:=hid t6;have F6:=hid F6;have Q:=hid B;have u:=hid g;clear n h7 h6 H t6 B g A;go_wp2_with(rw[←N.out])
   go_region_held3 (fun w'=>PQ w' w.heap.size (w.heap.size+1+1+1+1) (.iface i y) (.slice am s.marks.length cm)) (repeat(first|(with_reducible exact HQ.out)|(with_reducible exact O.out)|(with_reducible refine PQ.same ?_ (by omega))|(with_reducible refine PQ.set ?_ (by omega) (by omega) _)|(with_reducible refine PQ.drew ?_))) (fail)
   all_goals
    obtain⟨w8,o⟩:∃w8,w8=((((w7.setCell ⟨w.heap.size,0,none⟩ (.iface i y)).setCell ⟨w.heap.size+1,0,none⟩ (.slice am s.marks.length cm)).setCell ⟨w.heap.size+1+1,0,none⟩ (.int .i64 0)).setCell ⟨w.heap.size+1+1+1,0,none⟩ (.int .i64 0)).drew:=⟨_,rfl⟩;rw[←o];have hR:=Zin H7.out (.iface i y) (.slice am s.marks.length cm) (.int .i64 0) (.int .i64 0);have h8:Four w8 w.heap.size (w.heap.size+1) (w.heap.size+1+1) (w.heap.size+1+1+1) (.iface i y) (.slice am s.marks.length cm) (.int .i64 0) (.int .i64 0):=by rw[o];exact hR.1.drew
    have f8:Fr (fun k=>k=w.heap.size∨k=w.heap.size+1∨k=w.heap.size+1+1∨k=w.heap.size+1+1+1) w6 w8:=by rw[o];exact((Q.out.mono (fun _ _ x=>.inl x)).trans hR.2 (fun _ _ x=>x)).drew
    have J:RN (fun k=>k<w.heap.size) w8 t (.iface i y):=RN.keep f8 (fun k _ x=>.inr (by show k<_;omega)) (fun k _ x=>.inr (by show k<_;have x:k<w.heap.size:=x;omega)) _ _ M.out;have K:OwM w8 s.marks (.slice am s.marks.length cm):=ownsRow_fr u.out.ma f8 (fun k hk x=>by
     have h1:=u.out.nm k hk;have h2:=I.out;have h3:k=w.heap.size+1+1+1+1:=T6.out.old k (by omega) h1.2;omega)
    have D:Fr nob w w8:=F6.out.trans f8 (fun i hi x=>by omega);have k0:=cell_at (j:=0) (v:=.iface i y) h8.h0 rfl;have k1:=cell_at (j:=0) (v:=.slice am s.marks.length cm) h8.h1 rfl;have k2:=cell_at (j:=0) (v:=.int .i64 0) h8.h2 rfl;have k3:=cell_at (j:=0) (v:=.int .i64 0) h8.h3 rfl;have G:∀k,(Value.slice am s.marks.length cm).ownBlock=some k→w.heap.size≤k:=fun k hk=>by
     have h1:=u.out.nm k hk;have h2:=I.out;by_cases a0:k<w5.heap.size
     ·have h3:k=w.heap.size+1+1+1+1:=T6.out.old k a0 h1.2;omega
     ·omega
    have HA:=hid (show BreAnsO (.inr (t,s)) w (.returned (.tuple #[.iface i y,.slice am s.marks.length cm,.int .i64 0,.int .i64 0])) w8 from⟨D,_,_,_,rfl,J,K,G⟩);clear hR h8 f8 J K G D o c0 d0 c7 S a6 U d7 a3 Z a5;go_wp2;refine leaves_cons (f:=203) (args:= #[.pointer (some ⟨w.heap.size,0,none⟩),.pointer (some ⟨w.heap.size+1,0,none⟩),.pointer (some ⟨w.heap.size+1+1,0,none⟩),.pointer (some ⟨w.heap.size+1+1+1,0,none⟩)]) (by simp) (by simp[go_sem]) ?_;refine(Zho _ _ _ _ _).mono ?_;rintro e u' w9 ⟨rfl,rfl,rfl⟩;simp[Leaves,settle,results,Tryz.results179,go_sem,k0,k1,k2,k3];exact HA.out
theorem Zbj{l X:List UInt8}{k:Nat}(h:sgn l k=X)(hX:X≠[]):k+X.length≤l.length:=by
 have hk:k<l.length:=by
  by_cases hk:k<l.length
  ·exact hk
  ·exact absurd (h.symm.trans (Zkf (by omega))) hX
 have:=(Zkg l k).2;rw[h]at this;omega
theorem ZbQ(ere:Bool)(b:UInt8):1≤(opB ere b).length∧(opB ere b).length≤2∧opB ere b≠[]∧(ere=false→(opB ere b).length=2):=by cases ere<;>simp[opB]
theorem ZcU{l:List UInt8}{k:Nat}{ere:Bool}{b:UInt8}(h:(sgn l k==opB ere b)=true):k+(opB ere b).length≤l.length:=Zbj (eq_of_beq h) (ZbQ ere b).2.2.1
theorem ZkE{l:List UInt8}{ere:Bool}{k:Nat}{m x:Int}{j:Nat}(h:ZlJ l ere k=some (m,x,j)):k<j∧j≤l.length:=by
 unfold ZlJ at h;simp only at h;split at h
 ·cases h
 ·next hc=>
  have h4:=(ZbQ ere 125).1;have a:∀(q:Nat),ahd l q (opB ere 125)≠false→q+(opB ere 125).length≤l.length:=fun q hq=>ahd_le (by simpa using hq) h4;split at h
  ·split at h
   all_goals
    split at h
    ·cases h
    ·next ha=>
     injection h with h;injection h with h1 h;injection h with h2 h3;have:=a _ (fun e=>ha (.inl e));omega
  ·split at h
   ·cases h
   ·next ha=>
    injection h with h;injection h with h1 h;injection h with h2 h3;have:=a _ (fun e=>ha (.inl e));omega
def Zn4(l:List UInt8)(f:RxS→Out Nd):Prop:=∀s,Sane l s→∀t s',f s=.inr (t,s')→Sane l s'∧s.at_≤s'.at_∧t.size+2*s.at_≤2*s'.at_+2
theorem Sane.mk2{l:List UInt8}{s:RxS}{ere:Bool}{b:UInt8}(t:List UInt8)(hs:Sane l s)(h:s.at_+(opB ere b).length≤l.length):Sane l ((if ere then s else s.mark t).go (opB ere b).length):=by
 cases ere
 ·exact hs.markgo t (ZbQ false b).1 h
 ·exact hs.go h
theorem Zbz{ere:Bool}{l:List UInt8}:∀(n:Nat) (s:RxS) (t:Nd) (t':Nd) (s':RxS),Sane l s→Ze8 prg ere l n s t=.inr (t',s')→Sane l s'∧s.at_≤s'.at_∧t'.size+2*s.at_≤2*s'.at_+t.size
 |0,s,t,t',s',hs,h=>by
  rw[Ze8]at h;injection h with h;injection h with h1 h2;subst h1;subst h2;exact⟨hs,Nat.le_refl _,by omega⟩
 |n+1,s,t,t',s',hs,h=>by
  have hz:∀a b,(prg.rep t a b).size=1+t.size:=fun _ _=>rfl;have hat:∀u b,((if ere then s else s.mark u).go (opB ere b).length).at_=s.at_+(opB ere b).length:=fun u b=>by cases ere<;>rfl
  have ho:=ZbQ ere;rw[Ze8]at h;split at h
  ·next e=>
   have hle:s.at_+1≤l.length:=Zbj (eq_of_beq e) (by decide);obtain⟨k1,k2,k3⟩:=Zbz n _ _ _ _ (hs.go (n:=1) hle) h;have k2:s.at_+1≤s'.at_:=k2;have k3:t'.size+2*(s.at_+1)≤2*s'.at_+(1+t.size):=k3;exact⟨k1,by omega,by omega⟩
  ·split at h
   ·next e=>
    obtain⟨k1,k2,k3⟩:=Zbz n _ _ _ _ (hs.mk2 _ (ZcU e)) h;rw[hat]at k2 k3;rw[hz]at k3;have:=(ho 43).1;exact⟨k1,by omega,by omega⟩
   ·split at h
    ·next e=>
     obtain⟨k1,k2,k3⟩:=Zbz n _ _ _ _ (hs.mk2 _ (ZcU e)) h;rw[hat]at k2 k3;rw[hz]at k3;have:=(ho 63).1;exact⟨k1,by omega,by omega⟩
    ·split at h
     ·cases hi:ZlJ l ere (s.at_+(opB ere 123).length)with
      |none=>rw[hi]at h;cases h
      |some y=>
       obtain⟨m,x,j⟩:=y;rw[hi]at h;obtain⟨j1,j2⟩:=ZkE hi;obtain⟨k1,k2,k3⟩:=Zbz n _ _ _ _ (hs.to (n:=j) (by omega) j2) h;have k2:j≤s'.at_:=k2;have k3:t'.size+2*j≤2*s'.at_+(1+t.size):=k3;exact⟨k1,by omega,by omega⟩
     ·injection h with h;injection h with h1 h2;subst h1;subst h2;exact⟨hs,Nat.le_refl _,by omega⟩
section
variable {ere:Bool} {l:List UInt8} {C:Option (RxS→Out Nd)} (hC:∀f,C=some f→Zn4 l f)
theorem ZkF{s s':RxS}{t:Nd}{b:UInt8}(hs:Sane l s)(hl:s.at_+2≤l.length)(h:escD prg ere s b=.inr (t,s')):Sane l s'∧s.at_<s'.at_∧t.size+2*s.at_≤2*s'.at_:=by
 unfold escD at h;split at h
 ·split at h
  ·injection h with h;injection h with h1 h2;subst h1;subst h2;cases ere
   ·exact⟨hs.go hl,by show s.at_<s.at_+2;omega,by show 1+2*s.at_≤2*(s.at_+2);omega⟩
   ·exact⟨hs.markgo _ (by omega) hl,by show s.at_<s.at_+2;omega,by show 1+2*s.at_≤2*(s.at_+2);omega⟩
  ·cases h
 ·split at h
  ·cases h
  ·next c m _=>
   injection h with h;injection h with h1 h2;subst h1;subst h2;cases m
   ·exact⟨hs.go hl,by show s.at_<s.at_+2;omega,by show 1+2*s.at_≤2*(s.at_+2);omega⟩
   ·exact⟨hs.markgo _ (by omega) hl,by show s.at_<s.at_+2;omega,by show 1+2*s.at_≤2*(s.at_+2);omega⟩
include hC
theorem Zhq{s s':RxS}{t:Nd}(hs:Sane l s)(hl:s.at_+(opB ere 40).length≤l.length)(h:Zct prg ere l C s=.inr (t,s')):Sane l s'∧s.at_<s'.at_∧t.size+2*s.at_≤2*s'.at_:=by
 have ho:=ZbQ ere 40;unfold Zct at h;cases C with
 |none=>cases h
 |some f=>
  simp only at h;cases hf:f {s.go (opB ere 40).length with opened:=s.opened+1}with
  |inl e=>rw[hf]at h;cases h
  |inr z=>
   obtain⟨t1,s1⟩:=z;rw[hf]at h;simp only at h;have:=hs.op;have hg:=hs.go hl;obtain⟨k1,k2,k3⟩:=hC f rfl {s.go (opB ere 40).length with opened:=s.opened+1} ⟨hg.le,hg.mr,hg.cl,by show s.opened+1≤s.at_+_;omega⟩ t1 s1 hf;have k2:s.at_+(opB ere 40).length≤s1.at_:=k2;have k3:t1.size+2*(s.at_+(opB ere 40).length)≤2*s1.at_+2:=k3;split at h
   ·next e=>
    have e1:=ZcU e;have e2:(opB ere 40).length=(opB ere 41).length:=by cases ere<;>rfl
    injection h with h;injection h with h1 h2;subst h1;subst h2;refine⟨⟨by show s1.at_+_≤_;omega,Nat.le_trans k1.mr (Nat.le_add_right _ _),?_,Nat.le_trans k1.op (Nat.le_add_right _ _)⟩,by show s.at_<s1.at_+_;omega,?_⟩
    ·show(s1.closed++[_]).length≤s1.at_+_;have:=k1.cl;rw[List.length_append];simp only[List.length_singleton];omega
    ·show 1+t1.size+2*s.at_≤2*(s1.at_+_);omega
   ·cases h
theorem atomD_kept{s s':RxS}{t:Nd}(hs:Sane l s)(h:ZcS prg ere l C s=.inr (t,s')):Sane l s'∧s.at_<s'.at_∧t.size+2*s.at_≤2*s'.at_:=by
 unfold ZcS at h;split at h
 ·next e=>exact Zhq hC hs (ZcU e) h
 ·split at h
  ·cases h
  ·split at h
   ·cases hp:prs l (s.at_+1)with
    |inl z=>rw[hp]at h;cases h
    |inr y=>
     obtain⟨c,k⟩:=y;rw[hp]at h;injection h with h;injection h with h2 h3;subst h2;subst h3;obtain⟨_,p2,p3⟩:=prs_in hp;have p2:s.at_+1<k:=p2;have p3:k≤l.length:=p3;exact⟨hs.to (by omega) p3,by show s.at_<k;omega,by show 1+2*s.at_≤2*k;omega⟩
   ·split at h
    ·next e=>
     have a:s.at_+1≤l.length:=Zbj (eq_of_beq e) (by decide);injection h with h;injection h with h2 h3;subst h2;subst h3;exact⟨hs.go a,by show s.at_<s.at_+1;omega,by show 1+2*s.at_≤2*(s.at_+1);omega⟩
    ·split at h
     ·cases h
     ·split at h
      ·cases h
      ·next b e=>
       have a:s.at_+1≤l.length:=Zbj e (by simp);injection h with h;injection h with h2 h3;subst h2;subst h3;exact⟨hs.go a,by show s.at_<s.at_+1;omega,by show 1+2*s.at_≤2*(s.at_+1);omega⟩
      ·next b r e=>
       have h2:=(Zkg l s.at_).1;have a:=Zbj e (by simp);simp only[List.length_cons]at a;obtain⟨k1,k2,k3⟩:=ZkF hs (by omega) h;exact⟨k1,k2,k3⟩
theorem ZdJ{inner:Bool}:∀(n:Nat) (first front:Bool) (s:RxS) (ps:List Nd) (t:Nd) (s':RxS),Sane l s→brD prg ere l C inner n first front s ps=.inr (t,s')→
 Sane l s'∧s.at_≤s'.at_∧t.size+2*s.at_≤2*s'.at_+Nd.sizes ps+1
 |0,first,front,s,ps,t,s',hs,h=>by
  rw[brD]at h;injection h with h;injection h with h1 h2;subst h1;subst h2;have:=Zbx ps;exact⟨hs,Nat.le_refl _,by show(Za2 ps).size+_≤_;omega⟩
 |n+1,first,front,s,ps,t,s',hs,h=>by
  have hj:=Zbx ps;rw[brD]at h;split at h
  ·injection h with h;injection h with h1 h2;subst h1;subst h2;exact⟨hs,Nat.le_refl _,by show(Za2 ps).size+_≤_;omega⟩
  ·split at h
   ·next e=>
    have e1:(sgn l s.at_==[94])=true:=by simp only[Bool.and_eq_true]at e;exact e.1
    have a:s.at_+1≤l.length:=Zbj (eq_of_beq e1) (by decide);obtain⟨k1,k2,k3⟩:=ZdJ n _ _ _ _ _ _ (hs.go (n:=1) a) h;have k2:s.at_+1≤s'.at_:=k2;have k3:t.size+2*(s.at_+1)≤2*s'.at_+Nd.sizes (ps++[.start])+1:=k3;rw[Nd.sizes_append]at k3;have:Nd.sizes [Nd.start]=1:=rfl;exact⟨k1,by omega,by omega⟩
   ·split at h
    ·next e=>
     have e1:(sgn l s.at_==[36])=true:=by simp only[Bool.and_eq_true]at e;exact e.1
     have a:s.at_+1≤l.length:=Zbj (eq_of_beq e1) (by decide);obtain⟨k1,k2,k3⟩:=ZdJ n _ _ _ _ _ _ (hs.go (n:=1) a) h;have k2:s.at_+1≤s'.at_:=k2;have k3:t.size+2*(s.at_+1)≤2*s'.at_+Nd.sizes (ps++[.fin])+1:=k3;rw[Nd.sizes_append]at k3;have:Nd.sizes [Nd.fin]=1:=rfl;exact⟨k1,by omega,by omega⟩
    ·split at h
     ·cases h
     ·split at h
      ·cases h
      ·next t1 s1 e1=>
       split at h
       ·cases h
       ·next t2 s2 e2=>
        obtain⟨a1,a2,a3⟩:=atomD_kept hC hs e1;obtain⟨b1,b2,b3⟩:=Zbz _ _ _ _ _ a1 e2;obtain⟨k1,k2,k3⟩:=ZdJ n _ _ _ _ _ _ b1 h;rw[Nd.sizes_append]at k3;have:Nd.sizes [t2]=t2.size:=by simp[Nd.sizes]
        exact⟨k1,by omega,by omega⟩
theorem Zbf{inner:Bool}{s s':RxS}{t:Nd}(hs:Sane l s)(h:Zb7 prg ere l C inner s=.inr (t,s')):Sane l s'∧s.at_≤s'.at_∧t.size+2*s.at_≤2*s'.at_+1:=by
 have:=ZdJ hC _ _ _ _ _ _ _ hs h;simpa[Nd.sizes]using this
theorem ZeF{inner:Bool}:∀(n:Nat) (s:RxS) (ts:List Nd) (t:Nd) (s':RxS),Sane l s→Zar prg ere l C inner n s ts=.inr (t,s')→
 Sane l s'∧s.at_≤s'.at_∧t.size+2*s.at_≤2*s'.at_+Nd.sizes ts+1
 |0,s,ts,t,s',hs,h=>by
  rw[Zar]at h;injection h with h;injection h with h1 h2;subst h1;subst h2;have:=Zby ts;exact⟨hs,Nat.le_refl _,by show(Za3 ts).size+_≤_;omega⟩
 |n+1,s,ts,t,s',hs,h=>by
  have hj:=Zby ts;have hat:∀u b,((if ere then s else s.mark u).go (opB ere b).length).at_=s.at_+(opB ere b).length:=fun u b=>by cases ere<;>rfl
  have ho:=ZbQ ere 124;rw[Zar]at h;split at h
  ·next e=>
   split at h
   ·cases h
   ·next t1 s1 e1=>
    obtain⟨a1,a2,a3⟩:=Zbf hC (hs.mk2 _ (ZcU e)) e1;rw[hat]at a2 a3;obtain⟨k1,k2,k3⟩:=ZeF n _ _ _ _ a1 h;rw[Nd.sizes_append]at k3;have:Nd.sizes [t1]=t1.size:=by simp[Nd.sizes]
    exact⟨k1,by omega,by omega⟩
  ·injection h with h;injection h with h1 h2;subst h1;subst h2;exact⟨hs,Nat.le_refl _,by show(Za3 ts).size+_≤_;omega⟩
theorem Zdr{inner:Bool}{s s':RxS}{t:Nd}(hs:Sane l s)(h:choiceD prg ere l C inner s=.inr (t,s')):Sane l s'∧s.at_≤s'.at_∧t.size+2*s.at_≤2*s'.at_+2:=by
 unfold choiceD at h;split at h
 ·cases h
 ·next t1 s1 e1=>
  obtain⟨a1,a2,a3⟩:=Zbf hC hs e1;obtain⟨k1,k2,k3⟩:=ZeF hC _ _ _ _ _ a1 h;have:Nd.sizes [t1]=t1.size:=by simp[Nd.sizes]
  exact⟨k1,by omega,by omega⟩
end
theorem chD_kept{ere:Bool}{l:List UInt8}:∀n,Zn4 l (chD prg ere l n)
 |0=>fun s hs t s' h=>by rw[chD]at h;exact Zdr (fun f hf=>by cases hf) hs h
 |n+1=>fun s hs t s' h=>by rw[chD]at h;exact Zdr (fun f hf=>by injection hf with hf;subst hf;exact chD_kept n) hs h
end Go.Proofs.YtkfddjopbocpkaaGreatDoor
