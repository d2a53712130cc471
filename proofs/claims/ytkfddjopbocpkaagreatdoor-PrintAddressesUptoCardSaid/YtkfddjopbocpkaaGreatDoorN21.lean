/- Lemmas of this claim. -/
import Derived.Deep.DrawnRows
import Derived.Test.YtkfddjopbocpkaaGreatDoorN10
set_option linter.unusedVariables false
set_option linter.unusedSimpArgs false
set_option maxRecDepth 100000
set_option maxHeartbeats 4000000
namespace Go.Proofs.YtkfddjopbocpkaaGreatDoor
open Go.Lib (hid)
open Go.RowKit
def Old(w:World):Nat→Prop:=fun k=>k<w.heap.size
def LS2(S:Nat→Prop)(g:Option Nat):Nat→Prop:=fun k=>S k∨g=some k
def OwnS(S:Nat→Prop)(w:World)(l:List Nd)(v:Value)(g:Option Nat):Prop:=∃vs,w.ownsRow 0 26 1 v l.length vs∧VN (LS2 S g) w l vs∧v.ownBlock=g∧∀k,g=some k→¬S k
theorem OwnS.nil(S:Nat→Prop)(w:World):OwnS S w [] (.slice none 0 0) none:=⟨[],World.ownsRow_nil _ _ _ _,rfl,rfl,fun _ h=>by cases h⟩
theorem OwnS.shape{S:Nat→Prop}{w:World}{l:List Nd}{v:Value}{g:Option Nat}(h:OwnS S w l v g):∃a c,v=.slice a l.length c:=by
 obtain⟨vs,h1,_⟩:=h;exact Zb h1
theorem OwnS.on{S:Nat→Prop}{w w':World}{l:List Nd}{v:Value}{g:Option Nat}(h:OwnS S w l v g)(f:Fr nob w w'):OwnS S w' l v g:=by
 obtain⟨vs,h1,h2,h3,h4⟩:=h;exact⟨vs,ownsRow_fr h1 f (fun _ _ x=>x),h2.keep f (fun _ _ x=>x.elim) (fun _ _ x=>x),h3,h4⟩
theorem OwnS.lt{S:Nat→Prop}{w:World}{l:List Nd}{v:Value}{g:Option Nat}(h:OwnS S w l v g):∀k,g=some k→k<w.heap.size:=by
 intro k hk;obtain⟨vs,a,_,hg,_⟩:=h;rcases a.2 with⟨rfl,_⟩|⟨r,b,c,rfl,_,hr,_⟩
 ·rw[←hg]at hk;cases hk
 ·rw[←hg]at hk;injection hk with hk;subst hk;exact lt_heap hr
theorem OwnS.sn{S:Nat→Prop}{w:World}{l:List Nd}{v:Value}{g:Option Nat}(h:OwnS S w l v g):SN S w l v:=by
 obtain⟨vs,h1,h2,h3,h4⟩:=h;exact SN.of_own h1 (h2.keep (S':=S) (Fr.refl nob w) (fun _ _ x=>x.elim) (fun _ _ x=>.inl x)) (fun k hk=>h4 k (by rw[←h3,hk]))
theorem wpList_append_own1{S:Nat→Prop}{w:World}{ops:Array Oper}{rest:List Oper}{o:Oper}{a:Act}{Q:Exit→Act→World→Prop}(hgd:o.guard=none)(s x:Operand)
 (ho:o.op=.call {callee:=.builtin .append,args:= #[s,x],argTypes:= #[127,127]})
 (l:List Nd) (n:Nd) (v y:Value) (q:Nat) (g:Option Nat) (hs:a.eval s=v) (hown:OwnS S w l v g) (hx:a.eval x=.slice (some ⟨q,0,none⟩) 1 1) (hy:RN (LS2 S g) w n y)
 (hc:w.cell? ⟨q,0,none⟩=some y) (hS:∀k,S k→k<w.heap.size) (hb:l.length≤3000000)
 (h:∀v' w' g',OwnS S w' (l++[n]) v' g'→Fr (fun k=>g=some k) w w'→(∀k,g'=some k→g=some k∨w.heap.size≤k)→wpList Tryz.prog ops Q rest (a.put o.dst v') w'):wpList Tryz.prog ops Q (o::rest) a w:=by
 obtain⟨i0,hi,p,r,t⟩:=info_parts Zkl;obtain⟨vs,h1,h2,h3,h4⟩:=hown;have m:VN (LS2 S g) w [n] [y]:=⟨y,[],rfl,hy,rfl⟩;refine wpList_append_g hgd s x _ ho 26 i0 .nilIface 1 16 Tryz.underlying127 hi p r t rfl (by decide) v l.length vs hs h1 ⟨q,0,none⟩ 1 1 [y] hx rfl ?_ m.cell1 (by unfold maxLen;omega) (by omega) ?_
 ·intro j u hj
  match j,hj with
  |0,hj=>simp at hj;subst hj;simpa[Addr.add]using hc
 intro v' w' c d;have b:∀k,v'.ownBlock=some k→g=some k∨w.heap.size≤k:=fun k hk=>by
  rcases d.old k hk with h|h
  ·exact .inl (by rw[←h3,h])
  ·exact .inr h
 have f:Fr (fun k=>g=some k) w w':=d.fr.mono fun k _ hk=>by rw[←h3,hk]
 refine h v' w' v'.ownBlock ⟨vs++[y],by simpa using c,(VN.append h2 m).keep f (fun _ _ x=>.inr x) ?_,rfl,?_⟩ f b
 ·intro k hk x;rcases x with x|x
  ·exact .inl x
  ·rcases b k x with e|e
   ·exact .inr e
   ·omega
 ·intro k hk i;rcases b k hk with e|e
  ·exact h4 k e i
  ·have:=hS k i;omega
theorem T.nds_take{l:List T}{k:Nat}(h:k<l.length):T.nds (l.take (k+1))=T.nds (l.take k)++[l[k].nd]:=by
 simp only[T.nds_eq];rw[List.take_succ_eq_append_getElem h,List.map_append];rfl
theorem T.nds_length(l:List T):(T.nds l).length=l.length:=by rw[T.nds_eq,List.length_map]
theorem ZxF{w wr w1 w2:World}{o:Obj}{g:Option Nat}(h2:w1.heap.size≤wr.heap.size)(h3:w.heap.size<w1.heap.size)(hg:∀k,g=some k→k<wr.heap.size):
 ∀k,k<w2.heap.size→LS2 (Old w) g k→Old (wr.alloc o) k:=by
 intro k _ hk;unfold Old;rcases hk with hk|hk
 ·unfold Old at hk;simp;omega
 ·have:=hg k hk;simp;omega
theorem Zw5(m:Nat):∀(t:T) (cs:List Value) (w:World),t.nd.size≤m→t.nd.size≤3000000→RT nob w t cs→
 Calls Tryz.prog 45 #[.agg cs.toArray] w fun e w'=>∃v,e=.returned v∧RN (Old w) w' t.nd v∧Fr nob w w':=by
 induction m with
 |zero=>intro t cs w h;have:=t.nd.size_pos;omega
 |succ m ih=>
  intro t cs w hm hb h;obtain⟨kd,s,ps,mn,mx,nu,a,c,ht,rfl,hs⟩:=h.open';have IH:=hid ih;have HT:=hid h;have HE:=hid ht;clear ih h hs ht;have G:=hid t.kids_nd;have z:=Nd.length_le t.nd.kids;have R:=hid t.nd.size_kids;have a9:t.kids.length≤3000000:=by have h1:=G.out;have h2:=R.out;rw[h1,List.length_map]at z;rw[←h1]at z;omega
  go_enter Tryz.func45,Tryz.ntmps45;go_wp2_with fail;refine(kids_T t _ _ (HT.out.on ((Fr.refl _ _).alloc _))).mono ?_;rintro e w1 ⟨u,rfl,s1,f1⟩;obtain⟨a1,c1,rfl⟩:=s1.shape;have r:=f1.heap (heap_alloc_new _ _) (fun x=>x);have H:=lt_heap r;have S1:=hid s1;have F1:=hid f1;have K:=hid r;clear s1 f1 r z;go_wp2_with fail
  go_loopw [3,9] (fun s i wr=>∃(k:Nat) (g:Option Nat),i=.int .i64 k∧k≤t.kids.length∧OwnS (Old w) wr (T.nds (t.kids.take k)) s g∧Fr nob w1 wr∧∀j,g=some j→w1.heap.size≤j) (fun _ i _=>t.kids.length-(intOf i).toNat)
  case atStart=>exact⟨0,none,rfl,Nat.zero_le _,OwnS.nil _ _,Fr.refl _ _,fun _ h=>by cases h⟩
  case round=>
   obtain⟨k,g,rfl,hk,ho,fr,hg⟩:=hrel;obtain⟨av,cv,rfl⟩:=ho.shape;have HO:=hid ho;have FR:=hid fr;have HG:=hid hg;have P:=fr.size;clear ho fr hg;by_cases A:k<t.kids.length
   ·obtain⟨q,off,C,cx,he,hx,hc,a0⟩:=(S1.out.on FR.out).get A;injection he with e1 e2 e3;subst e1;subst e3;have o:=List.getElem_mem A;have V:t.kids[k].nd.size<t.nd.size:=Nd.kid_lt (by rw[G.out];exact List.mem_map_of_mem o);have I:=hid (T.nds_take A);have Q:(T.nds (t.kids.take k)).length≤3000000:=by rw[T.nds_length,List.length_take];omega
    obtain⟨x,J⟩:∃x,t.kids[k]=x:=⟨_,rfl⟩;rw[J]at hx V I;obtain⟨k',s',b3,b0,b1,b2,a',c',U,rfl,W⟩:=hx.open';obtain⟨d0,d1,d2,d3,d4,d5,d6,d7,d8⟩:=hc.nine;have HX:=hid hx;clear hx W U e2 hc J o;go_wp2_with fail;refine(IH.out x _ _ (by omega) (by omega) (HX.out.on ((Fr.refl _ _).alloc _))).mono ?_;rintro e w2 ⟨y,rfl,hy,f2⟩;have d:=hy.shape;have HY:=hid hy;have O:=f2.size;have F2:=hid f2;clear hy f2;simp only[World.size_alloc]at O;have hS:=hid (fun X=>fun k (hk:Old w k)=>(by unfold Old at hk;simp only[World.size_alloc];omega:k<(w2.alloc X).heap.size));rcases d with rfl|⟨iy,zy,rfl⟩
    all_goals
     go_wp2_with(at_builtin;refine wpList_append_own1 (S:=Old w) rfl (.tmp 13) (.tmp 16) rfl (T.nds (t.kids.take k)) x.nd _ _ w2.heap.size g (by rfl) (HO.out.on (((Fr.refl _ _).alloc _).trans' (F2.out.alloc _))) (by rfl) (RN.keep ((Fr.refl nob w2).alloc _) (fun _ _ x=>x.elim) (ZxF P H HO.out.lt) _ _ HY.out) (by simp) (hS.out _) Q ?_;intro v' w3 g' B E F;obtain⟨Y,Z,D⟩:=B.shape;simp only[List.length_append,List.length_singleton]at D;subst D;have N:=hid B;have L:=hid E;have M:=hid F;clear B E F);go_roundw
     case rel=>exact⟨k+1,g',by go_num,by omega,by rw[I.out];exact N.out,(((FR.out.alloc _).trans' F2.out).alloc _).trans L.out (fun i hi x=>by have:=HG.out i x;omega),fun j hj=>by
      rcases M.out j hj with h|h
      ·exact HG.out j h
      ·simp only[World.size_alloc]at h;omega⟩
     case measure=>simp[intOf];omega
   ·obtain rfl:k=t.kids.length:=by omega
    have hT:=List.take_of_length_le (l:=t.kids) (Nat.le_refl _);have hO:=HO.out;rw[hT]at hO⊢;have n:=hid hO.sn;clear hT hO;have b:=FR.out.heap K.out (fun x=>x);have d0:=cell_at (j:=0) b rfl;have d1:=cell_at (j:=1) b rfl;have d2:=cell_at (j:=2) b rfl;have d3:=cell_at (j:=3) b rfl;have d4:=cell_at (j:=4) b rfl;have d6:=cell_at (j:=6) b rfl;have d7:=cell_at (j:=7) b rfl;have d8:=cell_at (j:=8) b rfl;have FW:=hid ((((Fr.refl nob w).alloc _).trans' F1.out).trans' FR.out);clear b;have p:=hid (show T.nd1 ps=t.of.nd by rw[HE.out];cases ps<;>rfl);by_cases a1:kd=1
    ·subst a1;have hn:=hid (show t.nd=.one s by rw[HE.out];simp[T.nd]);go_wp2;go_ret;exact⟨_,rfl,by rw[hn.out,RN];rfl,FW.out⟩
    by_cases a2:kd=2
    ·subst a2;have hn:=hid (show t.nd=.cat (T.nds t.kids) by rw[HE.out];simp[T.nd,T.kids,T.kind,T.parts]);go_wp2;go_ret;exact⟨_,rfl,by rw[hn.out];exact ZjK.2 ⟨_,rfl,n.out⟩,FW.out⟩
    by_cases a3:kd=3
    ·subst a3;have hn:=hid (show t.nd=.alt (T.nds t.kids) by rw[HE.out];simp[T.nd,T.kids,T.kind,T.parts]);go_wp2;go_ret;exact⟨_,rfl,by rw[hn.out];exact ZjL.2 ⟨_,rfl,n.out⟩,FW.out⟩
    by_cases a4:kd=4
    ·subst a4;have hn:=hid (show t.nd=.rep t.of.nd mn mx by rw[←p.out,HE.out];simp[T.nd]);have f:T.nds t.kids=[t.of.nd]:=by rw[HE.out];simp[T.kids,T.kind,T.nds]
     have hS:=n.out;rw[f]at hS⊢;clear f;obtain⟨q,off,C,y,he,hy,hc⟩:=hS.get (k:=0) (by simp);injection he with e1 e2 e3;subst e1;subst e3;simp only[Nat.add_zero]at hc;have d:=hy.shape;have HY:=hid hy;clear hy e2 hS;simp only[List.length_cons,List.length_nil,Nat.zero_add];rcases d with rfl|⟨iy,zy,rfl⟩
     all_goals
      go_wp2
      go_quiet (fail)
      go_wp2;go_ret;exact⟨_,rfl,by rw[hn.out,RN];exact⟨_,rfl,RN.keep ((Fr.refl nob wr).drewN _) (fun _ _ x=>x.elim) (fun _ _ x=>x) _ _ HY.out⟩,FW.out.drewN _⟩
    by_cases a5:kd=5
    ·subst a5;have hn:=hid (show t.nd=.group nu t.of.nd by rw[←p.out,HE.out];simp[T.nd]);have f:T.nds t.kids=[t.of.nd]:=by rw[HE.out];simp[T.kids,T.kind,T.nds]
     have hS:=n.out;rw[f]at hS⊢;clear f;obtain⟨q,off,C,y,he,hy,hc⟩:=hS.get (k:=0) (by simp);injection he with e1 e2 e3;subst e1;subst e3;simp only[Nat.add_zero]at hc;have d:=hy.shape;have HY:=hid hy;clear hy e2 hS;simp only[List.length_cons,List.length_nil,Nat.zero_add];rcases d with rfl|⟨iy,zy,rfl⟩
     all_goals
      go_wp2
      go_quiet (fail)
      go_wp2;go_ret;exact⟨_,rfl,by rw[hn.out,RN];exact⟨_,rfl,RN.keep ((Fr.refl nob wr).drewN _) (fun _ _ x=>x.elim) (fun _ _ x=>x) _ _ HY.out⟩,FW.out.drewN _⟩
    by_cases a6:kd=6
    ·subst a6;have hn:=hid (show t.nd=.back nu by rw[HE.out];simp[T.nd]);go_wp2;go_ret;exact⟨_,rfl,by rw[hn.out,RN];rfl,FW.out⟩
    by_cases a7:kd=7
    ·subst a7;have hn:=hid (show t.nd=.start by rw[HE.out];simp[T.nd]);go_wp2;go_ret;exact⟨_,rfl,by rw[hn.out,RN];rfl,FW.out⟩
    by_cases a8:kd=8
    ·subst a8;have hn:=hid (show t.nd=.fin by rw[HE.out];simp[T.nd]);go_wp2;go_ret;exact⟨_,rfl,by rw[hn.out,RN];rfl,FW.out⟩
    ·have hn:=hid (show t.nd=.empty by rw[HE.out];simp[T.nd,a1,a2,a3,a4,a5,a6,a7,a8]);go_wp2;go_ret;exact⟨_,rfl,by rw[hn.out,RN];rfl,FW.out⟩
theorem T.kid_at(t:T){k:Nat}(h:k<t.kids.length)(h':k<t.nd.kids.length):t.nd.kids[k]=t.kids[k].nd:=by
 have:t.nd.kids[k]? =(t.kids[k]?).map T.nd:=by rw[t.kids_nd,List.getElem?_map]
 rw[List.getElem?_eq_getElem h',List.getElem?_eq_getElem h]at this;simpa using this
theorem T.kids_len(t:T):t.nd.kids.length=t.kids.length:=by rw[t.kids_nd,List.length_map]
theorem T.known_kd{k:Int}{s:S4}{ps:List T}{mn mx nu:Int}(h:(T.mk k s ps mn mx nu).known=true):(k=0∨k=1∨k=2∨k=3∨k=4∨k=5∨k=6∨k=7∨k=8)∧T.knowns ps=true:=by
 simp only[T.known,Bool.and_eq_true,Bool.not_eq_true',Bool.or_eq_false_iff,decide_eq_false_iff_not]at h;exact⟨by omega,h.2⟩
theorem T.known_kids{t:T}(h:t.known=true):∀x∈t.kids,x.known=true:=by
 obtain⟨k,s,ps,mn,mx,nu⟩:=t;have hp:=(T.known_kd h).2;intro x hx;unfold T.kids at hx;split at hx
 ·exact T.knowns_mem hp hx
 ·split at hx
  ·simp only[List.mem_singleton]at hx;subst hx;cases ps with
   |nil=>rfl
   |cons y r=>exact T.knowns_mem hp (by simp[T.of,T.parts])
  ·cases hx
abbrev C9(w:World)(b:Nat)(v0 v1 v2 v3 v4 v5 v6 v7 v8:Value):Prop:=
 w.cell? ⟨b,0,none⟩=some v0∧w.cell? ⟨b,1,none⟩=some v1∧w.cell? ⟨b,2,none⟩=some v2∧w.cell? ⟨b,3,none⟩=some v3∧w.cell? ⟨b,4,none⟩=some v4∧w.cell? ⟨b,5,none⟩=some v5∧w.cell? ⟨b,6,none⟩=some v6∧w.cell? ⟨b,7,none⟩=some v7∧w.cell? ⟨b,8,none⟩=some v8
theorem C9.of{w:World}{b:Nat}{v0 v1 v2 v3 v4 v5 v6 v7 v8:Value}{T:TypeId}{fr:Nat×Nat}(h:w.heap[b]? =some (.cells #[v0,v1,v2,v3,v4,v5,v6,v7,v8] T fr)):C9 w b v0 v1 v2 v3 v4 v5 v6 v7 v8:=
 ⟨cell_at h rfl,cell_at h rfl,cell_at h rfl,cell_at h rfl,cell_at h rfl,cell_at h rfl,cell_at h rfl,cell_at h rfl,cell_at h rfl⟩
attribute [local go_sem ↓] Go.wp_at_zero Go.wp_at_succ
abbrev ZcB(w:World)(b:Nat)(v0 v1 v2 v3 v4 v5 v6 v7 v8:Value):World:=
 ((((((((w.setCell ⟨b,0,none⟩ v0).setCell ⟨b,1,none⟩ v1).setCell ⟨b,2,none⟩ v2).setCell ⟨b,3,none⟩ v3).setCell ⟨b,4,none⟩ v4).setCell ⟨b,5,none⟩ v5).setCell ⟨b,6,none⟩ v6).setCell ⟨b,7,none⟩ v7).setCell ⟨b,8,none⟩ v8
theorem Zf{w:World}{b:Nat}{a0 a1 a2 a3 a4 a5 a6 a7 a8:Value}{T:TypeId}{fr:Nat×Nat}(h:w.heap[b]? =some (.cells #[a0,a1,a2,a3,a4,a5,a6,a7,a8] T fr))(v0 v1 v2 v3 v4 v5 v6 v7 v8:Value):
 (ZcB w b v0 v1 v2 v3 v4 v5 v6 v7 v8).heap[b]? =some (.cells #[v0,v1,v2,v3,v4,v5,v6,v7,v8] T fr):=by
 have h0:(w.setCell ⟨b,0,none⟩ v0).heap[b]? =some (.cells #[v0,a1,a2,a3,a4,a5,a6,a7,a8] T fr):=Za h 0 v0;have h1:((w.setCell ⟨b,0,none⟩ v0).setCell ⟨b,1,none⟩ v1).heap[b]? =some (.cells #[v0,v1,a2,a3,a4,a5,a6,a7,a8] T fr):=Za h0 1 v1;have h2:(((w.setCell ⟨b,0,none⟩ v0).setCell ⟨b,1,none⟩ v1).setCell ⟨b,2,none⟩ v2).heap[b]? =some (.cells #[v0,v1,v2,a3,a4,a5,a6,a7,a8] T fr):=Za h1 2 v2;have h3:((((w.setCell ⟨b,0,none⟩ v0).setCell ⟨b,1,none⟩ v1).setCell ⟨b,2,none⟩ v2).setCell ⟨b,3,none⟩ v3).heap[b]? =some (.cells #[v0,v1,v2,v3,a4,a5,a6,a7,a8] T fr):=Za h2 3 v3;have h4:(((((w.setCell ⟨b,0,none⟩ v0).setCell ⟨b,1,none⟩ v1).setCell ⟨b,2,none⟩ v2).setCell ⟨b,3,none⟩ v3).setCell ⟨b,4,none⟩ v4).heap[b]? =some (.cells #[v0,v1,v2,v3,v4,a5,a6,a7,a8] T fr):=Za h3 4 v4;have h5:((((((w.setCell ⟨b,0,none⟩ v0).setCell ⟨b,1,none⟩ v1).setCell ⟨b,2,none⟩ v2).setCell ⟨b,3,none⟩ v3).setCell ⟨b,4,none⟩ v4).setCell ⟨b,5,none⟩ v5).heap[b]? =some (.cells #[v0,v1,v2,v3,v4,v5,a6,a7,a8] T fr):=Za h4 5 v5
 have h6:(((((((w.setCell ⟨b,0,none⟩ v0).setCell ⟨b,1,none⟩ v1).setCell ⟨b,2,none⟩ v2).setCell ⟨b,3,none⟩ v3).setCell ⟨b,4,none⟩ v4).setCell ⟨b,5,none⟩ v5).setCell ⟨b,6,none⟩ v6).heap[b]? =some (.cells #[v0,v1,v2,v3,v4,v5,v6,a7,a8] T fr):=Za h5 6 v6;have h7:((((((((w.setCell ⟨b,0,none⟩ v0).setCell ⟨b,1,none⟩ v1).setCell ⟨b,2,none⟩ v2).setCell ⟨b,3,none⟩ v3).setCell ⟨b,4,none⟩ v4).setCell ⟨b,5,none⟩ v5).setCell ⟨b,6,none⟩ v6).setCell ⟨b,7,none⟩ v7).heap[b]? =some (.cells #[v0,v1,v2,v3,v4,v5,v6,v7,a8] T fr):=Za h6 7 v7;have h8:(((((((((w.setCell ⟨b,0,none⟩ v0).setCell ⟨b,1,none⟩ v1).setCell ⟨b,2,none⟩ v2).setCell ⟨b,3,none⟩ v3).setCell ⟨b,4,none⟩ v4).setCell ⟨b,5,none⟩ v5).setCell ⟨b,6,none⟩ v6).setCell ⟨b,7,none⟩ v7).setCell ⟨b,8,none⟩ v8).heap[b]? =some (.cells #[v0,v1,v2,v3,v4,v5,v6,v7,v8] T fr):=Za h7 8 v8;exact h8
theorem Zjh{w a:World}{b:Nat}(f:Fr nob a w)(hb:a.heap.size≤b)(v0 v1 v2 v3 v4 v5 v6 v7 v8:Value):Fr nob a (ZcB w b v0 v1 v2 v3 v4 v5 v6 v7 v8):=by
 have h:∀(x:World) (j:Nat) (v:Value),Fr nob a x→Fr nob a (x.setCell ⟨b,j,none⟩ v):=fun x j v hx=>hx.setCell (p:=⟨b,j,none⟩) (fun h=>absurd h (Nat.not_lt.2 hb)) v;exact h _ _ _ (h _ _ _ (h _ _ _ (h _ _ _ (h _ _ _ (h _ _ _ (h _ _ _ (h _ _ _ (h _ _ _ f))))))))
theorem Zas{w:World}{b:Nat}(v0 v1 v2 v3 v4 v5 v6 v7 v8:Value):Fr (fun k=>k=b) w (ZcB w b v0 v1 v2 v3 v4 v5 v6 v7 v8):=by
 have h:∀(x:World) (j:Nat) (v:Value),Fr (fun k=>k=b) w x→Fr (fun k=>k=b) w (x.setCell ⟨b,j,none⟩ v):=fun x j v hx=>hx.setCell (p:=⟨b,j,none⟩) (fun _=>rfl) v;exact h _ _ _ (h _ _ _ (h _ _ _ (h _ _ _ (h _ _ _ (h _ _ _ (h _ _ _ (h _ _ _ (h _ _ _ (Fr.refl _ w)))))))))
theorem ZfX{w:World}{b:Nat}(v0 v1 v2 v3 v4 v5 v6 v7 v8:Value):(ZcB w b v0 v1 v2 v3 v4 v5 v6 v7 v8).heap.size=w.heap.size:=by
 simp[World.setCell]
abbrev C3(w:World)(b:Nat)(v0 v1 v2:Value):Prop:=w.cell? ⟨b,0,none⟩=some v0∧w.cell? ⟨b,1,none⟩=some v1∧w.cell? ⟨b,2,none⟩=some v2
abbrev C2(w:World)(b:Nat)(v0 v1:Value):Prop:=w.cell? ⟨b,0,none⟩=some v0∧w.cell? ⟨b,1,none⟩=some v1
end Go.Proofs.YtkfddjopbocpkaaGreatDoor
namespace Go.Proofs.YtkfddjopbocpkaaGreatDoor
open Go.Lib (hid)
open Go.RowKit
theorem SI.on{w w':World}{l:List Int}{u:Value}(h:SI w l u)(f:Fr nob w w'):SI w' l u:=by
 rcases h with h|⟨g,off,a,rfl,h⟩
 ·exact .inl h
 ·exact .inr ⟨g,off,a,rfl,fun j x hj=>f.cell (h j x hj) (fun x=>x)⟩
def ZxN(o:Int)(c:List Int)(t:T)(w:World)(e:Ending)(w':World):Prop:=Fr nob w w'∧
 ((t.nd.look o c=none∧e=.returned (.tuple #[.bool false,.int .i64 0,.slice none 0 0]))∨∃o' c' u,t.nd.look o c=some (o',c')∧e=.returned (.tuple #[.bool true,.int .i64 o',u])∧SI w' c' u)
def Zwz(k:Int):Bool:=decide (k=3)||decide (k=0)||decide (k=2)
theorem T.plain_kd{t:T}(h:t.known=true):(!t.nd.plain)=Zwz t.kind:=by
 obtain⟨k,s,ps,mn,mx,nu⟩:=t;rcases(T.known_kd h).1 with rfl|rfl|rfl|rfl|rfl|rfl|rfl|rfl|rfl<;>simp[T.nd,Nd.plain,Zwz,T.kind]
theorem T.isAlt_kd{t:T}(h:t.known=true):t.nd.isAlt=decide (t.kind=3):=by
 obtain⟨k,s,ps,mn,mx,nu⟩:=t;rcases(T.known_kd h).1 with rfl|rfl|rfl|rfl|rfl|rfl|rfl|rfl|rfl<;>simp[T.nd,Nd.isAlt,T.kind]
theorem T.atom_kd{t:T}(h:t.known=true):t.nd.atom= !(decide (t.kind=0)||decide (t.kind=7)||decide (t.kind=8)||decide (t.kind=2)||decide (t.kind=3)):=by
 obtain⟨k,s,ps,mn,mx,nu⟩:=t;rcases(T.known_kd h).1 with rfl|rfl|rfl|rfl|rfl|rfl|rfl|rfl|rfl<;>simp[T.nd,Nd.atom,T.kind]
def Zwy(kd k:Int):Bool:=if kd=2 then Zwz k else decide (k=3)
theorem T.shaped_list{kd:Int}{s:S4}{ps:List T}{mn mx nu o:Int}{c:List Int}(h:kd=2∨kd=3)(hk:∀x∈ps,x.known=true):
 ((T.mk kd s ps mn mx nu).nd.shaped o c)=(decide (1<ps.length)&& !ps.any (fun x=>Zwy kd x.kind),o):=by
 have h1:(T.nds ps).any (fun n=> !n.plain)=ps.any (fun x=>Zwz x.kind):=by
  rw[T.nds_eq,List.any_map];clear h;induction ps with
  |nil=>rfl
  |cons a r ih=>simp only[List.any_cons,Function.comp,T.plain_kd (hk a (by simp)),ih (fun x hx=>hk x (by simp[hx]))]
 have h2:(T.nds ps).any Nd.isAlt=ps.any (fun x=>decide (x.kind=3)):=by
  rw[T.nds_eq,List.any_map];clear h h1;induction ps with
  |nil=>rfl
  |cons a r ih=>simp only[List.any_cons,Function.comp,T.isAlt_kd (hk a (by simp)),ih (fun x hx=>hk x (by simp[hx]))]
 rcases h with rfl|rfl
 ·simp[T.nd,Nd.shaped,T.nds_length,h1,Zwy]
 ·simp[T.nd,Nd.shaped,T.nds_length,h2,Zwy]
theorem T.shut_kd(kd:Int)(s:S4)(ps:List T)(mn mx nu:Int)(c:List Int):(T.mk kd s ps mn mx nu).nd.shut c=if kd=5 then c++[nu]else c:=by
 simp only[T.nd];by_cases a1:kd=1
 ·simp[a1,Nd.shut]
 by_cases a2:kd=2
 ·simp[a2,Nd.shut]
 by_cases a3:kd=3
 ·simp[a3,Nd.shut]
 by_cases a4:kd=4
 ·simp[a4,Nd.shut]
 by_cases a5:kd=5
 ·simp[a5,Nd.shut]
 by_cases a6:kd=6
 ·simp[a6,Nd.shut]
 by_cases a7:kd=7
 ·simp[a7,Nd.shut]
 by_cases a8:kd=8
 ·simp[a8,Nd.shut]
 simp[a1,a2,a3,a4,a5,a6,a7,a8,Nd.shut]
theorem ZwA{ops:Array Oper}{o:Oper}{a:Act}{w:World}{K:Act→World→Prop}{Q:Exit→Act→World→Prop}{E:Prop}
 (hg:o.guard=none) (s x:Operand) (hop:o.op=Op.call {callee:=Callee.builtin Builtin.append,args:= #[s,x],argTypes:= #[86,86]})
 (l m:List Int) (v ux:Value) (hs:a.eval s=v) (hown:w.ownsRow 0 3 1 v l.length (l.map (Value.int .i64))) (hx:a.eval x=ux) (hm:SI w m ux) (hb:l.length+m.length≤6000000)
 (hK:∀v' w',w'.ownsRow 0 3 1 v' (l++m).length ((l++m).map (Value.int .i64))→Fr (fun k=>v.ownBlock=some k) w w'→(∀k,v'.ownBlock=some k→v.ownBlock=some k∨w.heap.size≤k)→K (a.put o.dst v') w'):
 if Region.wanted o (yielded ops a.tmps)=true then Oper.wp Tryz.prog o a w K Q else E:=by
 obtain⟨i0,hi,f,g,h⟩:=info_parts ZuY;rcases hm with⟨rfl,rfl⟩|⟨q,off,e,rfl,hc⟩
 ·have hw:Region.wanted o (yielded ops a.tmps)=true:=by simp[Region.wanted,hg]
  rw[if_pos hw];have hr:=run_append_owned_none (P:=Tryz.prog) (w:=w) 0 86 o.type 3 i0 1 Tryz.underlying86 hi v l.length _ hown;unfold Oper.wp execOp;simp only[hop,resolve,invoke,builtin,Sem.run_bind,Sem.run_pure,Result.andThen_ok,List.map_toArray,List.map_cons,List.map_nil,hs,hx,hr];exact hK _ _ (by simpa using hown) (Fr.refl _ _) (fun k hk=>.inl hk)
 ·refine step_append_g hg s x _ hop 3 i0 (.int .i64 0) 1 8 Tryz.underlying86 hi f g h rfl (by decide) v l.length _ hs hown ⟨q,off,none⟩ m.length e (m.map (Value.int .i64)) hx (by simp) ?_ ?_ (by unfold maxLen;omega) (by omega) ?_
  ·intro j u hj;rw[List.getElem?_map]at hj;cases b:m[j]? with
   |none=>rw[b]at hj;cases hj
   |some y=>
    rw[b]at hj;injection hj with hj;subst hj;have:=hc j y b;by_cases h0:j=0<;>simpa[Addr.add,h0]using this
  ·intro u hu;obtain⟨y,_,rfl⟩:=List.mem_map.1 hu;rfl
  ·intro v' w' c d;exact hK v' w' (by simpa using c) d.fr d.old
theorem ownsRow_empty{w:World}{b:Nat}{e:TypeId}(h:w.heap[b]? =some (.cells #[] e (0,0))):w.ownsRow 0 e 1 (.slice (some ⟨b,0,none⟩) 0 0) ([]:List Int).length (([]:List Int).map (Value.int .i64)):=by
 refine⟨by simp,.inr ⟨b,0,#[],rfl,Nat.zero_le _,h,by simp,by simp[maxLen],by simp,by simp⟩⟩
theorem SI.of_own{w:World}{l:List Int}{u:Value}(h:w.ownsRow 0 3 1 u l.length (l.map (Value.int .i64))):SI w l u:=by
 obtain⟨_,h⟩:=h;rcases h with⟨rfl,h0⟩|⟨r,b,c,rfl,_,hr,hn,_,_,a⟩
 ·exact .inl ⟨rfl,List.length_eq_zero_iff.1 h0⟩
 ·refine .inr ⟨r,0,b,rfl,fun j x hj=> ?_⟩;have:(l.map (Value.int .i64))[j]? =some (.int .i64 x):=by simp[hj]
  rw[←a,List.getElem?_take]at this;split at this
  ·exact cell_at hr (by simpa using this)
  ·cases this
theorem SI.one{w:World}{b:Nat}{x:Int}{e:TypeId}(h:w.heap[b]? =some (.cells #[.int .i64 x] e (0,0))):SI w [x] (.slice (some ⟨b,0,none⟩) 1 1):=by
 refine .inr ⟨b,0,1,rfl,fun j y hj=> ?_⟩
 match j,hj with
 |0,hj=>simp at hj;subst hj;exact cell_at h rfl
theorem Zxw{v:Value}{b H B n c:Nat}(h:∀k,v.ownBlock=some k→(Value.slice (some ⟨b,0,none⟩) n c).ownBlock=some k∨H≤k)(h1:B≤b)(h2:B≤H):∀k,v.ownBlock=some k→B≤k:=by
 intro k hk;rcases h k hk with e|e
 ·simp[Value.ownBlock]at e;omega
 ·omega
theorem fr_new{wr W w3:World}{b n c:Nat}(f:Fr nob wr W)(h:Fr (fun k=>(Value.slice (some ⟨b,0,none⟩) n c).ownBlock=some k) W w3)(hb:wr.heap.size≤b):Fr nob wr w3:=
 f.trans h (fun i hi e=>by simp[Value.ownBlock]at e;omega)
def Swt(o:Int)(c:List Int)(t:T)(w1:World)(s1:Value)(wx:World):Prop:=∃o1,s1=.int .i64 o1∧t.nd.shaped o c=(true,o1)∧Fr nob w1 wx
theorem right_T(m:Nat):∀(t:T) (cs:List Value) (w:World) (o:Int) (c:List Int) (u:Value),t.nd.size≤m→0≤o→o+t.nd.size≤3000000→c.length+t.nd.size≤3000000→t.known=true→RT nob w t cs→SI w c u→
 Calls Tryz.prog 105 #[.agg cs.toArray,.int .i64 o,u] w (ZxN o c t w):=by
 induction m with
 |zero=>intro t cs w o c u h;have:=t.nd.size_pos;omega
 |succ m ih=>
  intro t cs w o c u hm h0 ho hc f9 h M;obtain⟨kd,s,ps,mn,mx,nu,a,cp,ht,rfl,hs⟩:=h.open';obtain⟨ua,uc,rfl⟩:=M.shape;have IH:=hid ih;have HT:=hid h;have HE:=hid ht;have Y:=hid f9;have e9:=hid M;clear ih h hs ht f9 M;have j4:=t.nd.size_pos;have j9:t.kids.length≤3000000:=by have h1:=Nd.length_le t.nd.kids;have h2:=t.nd.size_kids;have h3:=t.kids_len;omega
  have d2:=hid t.nd.size_kids;go_enter Tryz.func105,Tryz.ntmps105;go_wp2_with fail;refine(kids_T t _ _ (HT.out.on ((Fr.refl _ _).alloc _))).mono ?_;rintro e w1 ⟨v,rfl,s1,f1⟩;obtain⟨a1,c1,rfl⟩:=s1.shape;have L:=f1.heap (heap_alloc_new _ _) (fun x=>x);have S1:=hid s1;have i1:=hid L;have F1:=hid (((Fr.refl nob w).alloc _).trans' f1);have d0:=cell_at (j:=0) L rfl;have d6:=cell_at (j:=6) L rfl;have d7:=cell_at (j:=7) L rfl;have d8:=cell_at (j:=8) L rfl;clear s1 f1 L;go_upto_block 0 with(fail)
  go_cut [1] (Swt o c t w1)
  case first=>
   by_cases H:kd=2∨kd=3
   ·have P:t.kids=ps:=by rw[HE.out];rcases H with rfl|rfl<;>simp[T.kids,T.kind,T.parts]
    have b:t.nd.shaped o c=(decide (1<t.kids.length)&& !t.kids.any (fun x=>Zwy kd x.kind),o):=by
     rw[P,HE.out];exact T.shaped_list H (fun x hx=>T.known_kids Y.out x (by rw[P];exact hx))
    have g:=hid b;clear P b;by_cases hl:t.kids.length<2
    ·have a4:=hid (Nd.look_no (n:=t.nd) (o:=o) (c:=c) (by rw[g.out];simp;omega));clear g;rcases H with rfl|rfl
     all_goals
      go_wp2;go_ret3;exact⟨F1.out,.inl ⟨a4.out,rfl⟩⟩
    ·have j6:=hid H;have hq:((kd==2)=true∧kd=2)∨((kd==2)=false∧(kd==3)=true∧kd=3):=by rcases H with rfl|rfl<;>simp
     clear H;have a9:∀(k:Nat) (hk:k<t.kids.length),Zwy kd t.kids[k].kind=true→t.nd.look o c=none:=fun k hk hb=>by
      refine Nd.look_no ?_;rw[g.out];have:t.kids.any (fun x=>Zwy kd x.kind)=true:=List.any_eq_true.2 ⟨_,List.getElem_mem hk,hb⟩;simp[this]
     have a7:=hid a9;clear a9;rcases hq with⟨j0,f6⟩|⟨j0,k5,f7⟩
     ·have X:=hid f6;clear f6;go_wp2_with fail
      go_loop [30] (fun i=>∃k:Nat,i=.int .i64 k∧k≤t.kids.length∧(t.kids.take k).any (fun x=>Zwy kd x.kind)=false) (fun i=>t.kids.length-(intOf i).toNat)
      case atStart=>exact⟨0,rfl,Nat.zero_le _,rfl⟩
      case round=>
       obtain⟨k,rfl,hk,hn⟩:=hrel;have HN:=hid hn;clear hn;by_cases d:k<t.kids.length
       ·obtain⟨q,off,a0,cx,he,hx,r,c7⟩:=S1.out.get d;injection he with e1 e2 e3;subst e1;subst e3;have A:=hid (List.take_succ_eq_append_getElem d);have I:=hid (a7.out k d);obtain⟨x,z⟩:∃x,t.kids[k]=x:=⟨_,rfl⟩;rw[z]at hx A I;obtain⟨kx,sx,px,h8,h9,i0,ax,f2,rfl,rfl,J⟩:=hx.open';obtain⟨g0,_⟩:=r.nine;clear hx J e2 r z;by_cases k3:kx=3
        ·subst k3;have HL:=hid (I.out (by rw[X.out];simp[Zwy,Zwz,T.kind]));go_wp2;go_ret3;exact⟨F1.out,.inl ⟨HL.out,rfl⟩⟩
        have j2:(kx==3)=false:=by simpa using k3
        by_cases k0:kx=0
        ·subst k0;have HL:=hid (I.out (by rw[X.out];simp[Zwy,Zwz,T.kind]));go_wp2;go_ret3;exact⟨F1.out,.inl ⟨HL.out,rfl⟩⟩
        have k7:(kx==0)=false:=by simpa using k0
        by_cases k2:kx=2
        ·subst k2;have HL:=hid (I.out (by rw[X.out];simp[Zwy,Zwz,T.kind]));go_wp2;go_ret3;exact⟨F1.out,.inl ⟨HL.out,rfl⟩⟩
        have k8:(kx==2)=false:=by simpa using k2
        have c0:=hid (show(t.kids.take (k+1)).any (fun x=>Zwy kd x.kind)=false by rw[A.out,List.any_append,HN.out,X.out];simp[Zwy,Zwz,T.kind,k3,k0,k2]);go_wp2
        go_round
        case rel=>exact⟨k+1,by go_num,by omega,c0.out⟩
        case measure=>simp[intOf];omega
       ·obtain rfl:k=t.kids.length:=by omega
        have hn:=HN.out;rw[List.take_of_length_le (Nat.le_refl _)]at hn;have c4:=hid (show t.nd.shaped o c=(true,o) by rw[g.out,hn];simp;omega);clear hn;go_wp2;go_meet;exact⟨o,rfl,c4.out,Fr.refl _ _⟩
     ·have e5:=hid f7;clear f7;go_wp2_with fail
      go_loop [30] (fun i=>∃k:Nat,i=.int .i64 k∧k≤t.kids.length∧(t.kids.take k).any (fun x=>Zwy kd x.kind)=false) (fun i=>t.kids.length-(intOf i).toNat)
      case atStart=>exact⟨0,rfl,Nat.zero_le _,rfl⟩
      case round=>
       obtain⟨k,rfl,hk,hn⟩:=hrel;have HN:=hid hn;clear hn;by_cases d:k<t.kids.length
       ·obtain⟨q,off,a0,cx,he,hx,r,c7⟩:=S1.out.get d;injection he with e1 e2 e3;subst e1;subst e3;have A:=hid (List.take_succ_eq_append_getElem d);have I:=hid (a7.out k d);obtain⟨x,z⟩:∃x,t.kids[k]=x:=⟨_,rfl⟩;rw[z]at hx A I;obtain⟨kx,sx,px,h8,h9,i0,ax,f2,rfl,rfl,J⟩:=hx.open';obtain⟨g0,_⟩:=r.nine;clear hx J e2 r z;by_cases k3:kx=3
        ·subst k3;have HL:=hid (I.out (by rw[e5.out];simp[Zwy,Zwz,T.kind]));go_wp2;go_ret3;exact⟨F1.out,.inl ⟨HL.out,rfl⟩⟩
        have j2:(kx==3)=false:=by simpa using k3
        have c0:=hid (show(t.kids.take (k+1)).any (fun x=>Zwy kd x.kind)=false by rw[A.out,List.any_append,HN.out,e5.out];simp[Zwy,Zwz,T.kind,k3]);go_wp2
        go_round
        case rel=>exact⟨k+1,by go_num,by omega,c0.out⟩
        case measure=>simp[intOf];omega
       ·obtain rfl:k=t.kids.length:=by omega
        have hn:=HN.out;rw[List.take_of_length_le (Nat.le_refl _)]at hn;have c4:=hid (show t.nd.shaped o c=(true,o) by rw[g.out,hn];simp;omega);clear hn;go_wp2;go_meet;exact⟨o,rfl,c4.out,Fr.refl _ _⟩
   have n2:(kd==2)=false:=by simp;omega
   have n3:(kd==3)=false:=by simp;omega
   clear H;by_cases h4:kd=4
   ·have a3:t.kids=[t.of]:=by rw[HE.out,h4];simp[T.kids,T.kind]
    have i8:t.kids.length=1:=by rw[a3];rfl
    have h7:T.nd1 ps=t.of.nd:=by rw[HE.out];cases ps<;>rfl
    have b6:=T.known_kids Y.out t.of (by rw[a3];simp);have b:t.nd.shaped o c=(repOk (!(decide (t.of.kind=0)||decide (t.of.kind=7)||decide (t.of.kind=8)||decide (t.of.kind=2)||decide (t.of.kind=3))) mn mx,o):=by
     rw[←T.atom_kd b6,←h7,HE.out,h4];simp[T.nd,Nd.shaped]
    obtain⟨q,off,a0,cx,he,hx,r,c7⟩:=S1.out.get (k:=0) (by omega);injection he with e1 e2 e3;subst e1;subst e3;have a6:t.kids[0]=t.of:=by simp[a3]
    rw[a6]at hx;obtain⟨x,z⟩:∃x,t.of=x:=⟨_,rfl⟩;rw[z]at hx b;obtain⟨kx,sx,px,h8,h9,i0,ax,f2,rfl,rfl,J⟩:=hx.open';simp only[Nat.zero_mul,Nat.add_zero]at r;obtain⟨g0,_⟩:=r.nine;have W:t.nd.shaped o c=(repOk (!(decide (kx=0)||decide (kx=7)||decide (kx=8)||decide (kx=2)||decide (kx=3))) mn mx,o):=b;have g:=hid W;have a4:repOk (!(decide (kx=0)||decide (kx=7)||decide (kx=8)||decide (kx=2)||decide (kx=3))) mn mx=false→t.nd.look o c=none:=fun h=>Nd.look_no (by rw[g.out];exact h);have N:=hid a4;have k1:0<t.kids.length:=by omega
    have k4:(0:Int)<t.kids.length:=by omega
    have n4:(kd==4)=true:=by simp[h4]
    clear hx J e2 r z a3 i8 h7 b6 b W a4 a6 h4;by_cases m0:mn<0
    ·have HL:=hid (N.out (by simp[repOk,m0]<;>(intros;omega)));go_wp2;go_ret3;exact⟨F1.out,.inl ⟨HL.out,rfl⟩⟩
    by_cases m1:255<mn
    ·have HL:=hid (N.out (by simp[repOk,m1]<;>(intros;omega)));go_wp2;go_ret3;exact⟨F1.out,.inl ⟨HL.out,rfl⟩⟩
    by_cases m2:mx≠ -1∧mx<mn
    ·obtain⟨m2,m3⟩:=m2;have HL:=hid (N.out (by simp[repOk,m2,m3]<;>(intros;omega)));have j3:(mx != -1)=true:=by simpa using m2
     clear m2;go_wp2;go_ret3;exact⟨F1.out,.inl ⟨HL.out,rfl⟩⟩
    by_cases m4:mx≠ -1∧255<mx
    ·obtain⟨m3,m4⟩:=m4;have HL:=hid (N.out (by simp[repOk,m3,m4]<;>(intros;omega)));have j3:(mx != -1)=true:=by simpa using m3
     have m5:¬mx<mn:=fun h=>m2 ⟨m3,h⟩;clear m2 m3;go_wp2;go_ret3;exact⟨F1.out,.inl ⟨HL.out,rfl⟩⟩
    have c9:((mx != -1)=false∧mx= -1)∨((mx != -1)=true∧¬mx<mn∧¬255<mx):=by
     by_cases e:mx= -1
     ·exact .inl (by simp[e])
     ·exact .inr ⟨by simpa using e,fun h=>m2 ⟨e,h⟩,fun h=>m4 ⟨e,h⟩⟩
    clear m2 m4;have i7:kx=0∨((kx==0)=false∧kx=7)∨((kx==0)=false∧(kx==7)=false∧kx=8)∨((kx==0)=false∧(kx==7)=false∧(kx==8)=false∧kx=2)∨((kx==0)=false∧(kx==7)=false∧(kx==8)=false∧(kx==2)=false∧kx=3)∨((kx==0)=false∧(kx==7)=false∧(kx==8)=false∧(kx==2)=false∧(kx==3)=false):=by
     simp only[beq_eq_false_iff_ne];omega
    rcases i7 with rfl|⟨_,rfl⟩|⟨_,_,rfl⟩|⟨_,_,_,rfl⟩|⟨_,_,_,_,rfl⟩|⟨b1,b2,b3,b4,b5⟩
    rotate_left 5
    ·have O:repOk (!(decide (kx=0)||decide (kx=7)||decide (kx=8)||decide (kx=2)||decide (kx=3))) mn mx=true:=by
      simp only[beq_eq_false_iff_ne]at b1 b2 b3 b4 b5;have hb:(!(decide (kx=0)||decide (kx=7)||decide (kx=8)||decide (kx=2)||decide (kx=3)))=true:=by simp[b1,b2,b3,b4,b5]
      have g1:0≤mn:=by omega
      have g2:mn≤255:=by omega
      rw[hb];rcases c9 with⟨_,e⟩|⟨_,e1,e2⟩
      ·simp[repOk,g1,g2,e]
      ·have g3:mn≤mx:=by omega
       have g4:mx≤255:=by omega
       simp[repOk,g1,g2,g3,g4]
     have C:=hid (show t.nd.shaped o c=(true,o) by rw[g.out,O]);clear O;rcases c9 with⟨e1,e2⟩|⟨e1,e2,e3⟩
     ·clear e2;go_wp2;go_meet;exact⟨o,rfl,C.out,Fr.refl _ _⟩
     ·go_wp2;go_meet;exact⟨o,rfl,C.out,Fr.refl _ _⟩
    all_goals
     have HL:=hid (N.out (by simp[repOk]));rcases c9 with⟨e1,e2⟩|⟨e1,e2,e3⟩
     ·clear e2;go_wp2;go_ret3;exact⟨F1.out,.inl ⟨HL.out,rfl⟩⟩
     ·go_wp2;go_ret3;exact⟨F1.out,.inl ⟨HL.out,rfl⟩⟩
   have n4:(kd==4)=false:=by simpa using h4
   by_cases h5:kd=5
   ·have b:t.nd.shaped o c=(nu==o+1,o+1):=by rw[HE.out,h5];simp[T.nd,Nd.shaped]
    have n5:(kd==5)=true:=by simpa using h5
    by_cases Q:nu=o+1
    ·have C:=hid (show t.nd.shaped o c=(true,o+1) by rw[b,Q];simp);have i9:(nu !=o+1)=false:=by simpa using Q
     clear b Q h5 h4;go_wp2;go_meet;exact⟨o+1,rfl,C.out,Fr.refl _ _⟩
    ·have HL:=hid (Nd.look_no (n:=t.nd) (o:=o) (c:=c) (by rw[b];simpa using Q));have i9:(nu !=o+1)=true:=by simpa using Q
     clear b h5 h4;go_wp2;go_ret3;exact⟨F1.out,.inl ⟨HL.out,rfl⟩⟩
   have n5:(kd==5)=false:=by simpa using h5
   by_cases h6:kd=6
   ·have b:t.nd.shaped o c=(c.contains nu,o):=by rw[HE.out,h6];simp[T.nd,Nd.shaped]
    have g:=hid b;have n6:(kd==6)=true:=by simpa using h6
    clear b h4 h5 h6;go_wp2_with fail
    go_loopw [12,124] (fun f i wr=>∃k:Nat,i=.int .i64 k∧k≤c.length∧f=.bool ((c.take k).contains nu)∧Fr nob w1 wr) (fun _ i _=>c.length-(intOf i).toNat)
    case atStart=>exact⟨0,rfl,Nat.zero_le _,rfl,Fr.refl _ _⟩
    case round=>
     obtain⟨k,rfl,hk,rfl,fr⟩:=hrel;have FR:=hid fr;have j7:=fr.cell d8 (fun x=>x);clear fr;by_cases d:k<c.length
     ·obtain⟨q,off,a0,he,i6⟩:=(e9.out.on (F1.out.trans' FR.out)).get d;injection he with e1 e2 e3;subst e1;subst e3;have A:=List.take_succ_eq_append_getElem d;obtain⟨y,hy⟩:∃y,c[k]=y:=⟨_,rfl⟩;rw[hy]at i6 A;have b0:(c.take (k+1)).contains nu=((c.take k).contains nu||y==nu):=by
       rw[A];simp only[List.contains_eq_mem,List.mem_append,List.mem_singleton];rw[Bool.eq_iff_iff];simp;constructor<;>(rintro(h|h)<;>simp[h])
      have K:=hid b0;obtain⟨p,hp⟩:∃p,(c.take k).contains nu=p:=⟨_,rfl⟩;rw[hp]at K⊢;have q1:(0:Int)≤k:=by omega
      have q2:(k:Int)<c.length:=by omega
      clear b0 A hy hp e2;cases p with
      |true=>
       go_wp2
       go_quiet (fail)
       go_wp2;go_roundw
       case rel=>exact⟨k+1,by go_num,by omega,by rw[K.out];rfl,FR.out.drewN _⟩
       case measure=>simp[intOf];omega
      |false=>
       by_cases e0:y=nu
       ·have d9:(y==nu)=true:=by simpa using e0
        have HY:=hid d9;clear e0;go_wp2
        go_quiet (fail)
        go_wp2;go_roundw
        case rel=>exact⟨k+1,by go_num,by omega,by rw[K.out,HY.out];rfl,FR.out.drewN _⟩
        case measure=>simp[intOf];omega
       ·have d9:(y==nu)=false:=by simpa using e0
        have HY:=hid d9;go_wp2
        go_quiet (fail)
        go_wp2;go_roundw
        case rel=>exact⟨k+1,by go_num,by omega,by rw[K.out,HY.out];rfl,FR.out.drewN _⟩
        case measure=>simp[intOf];omega
     ·obtain rfl:k=c.length:=by omega
      have hT:=List.take_of_length_le (l:=c) (Nat.le_refl _);rw[hT];clear hT;cases a2:c.contains nu with
      |true=>
       have C:=hid (show t.nd.shaped o c=(true,o) by rw[g.out,a2]);clear a2;go_wp2;go_meet;exact⟨o,rfl,C.out,FR.out⟩
      |false=>
       have HL:=hid (Nd.look_no (n:=t.nd) (o:=o) (c:=c) (by rw[g.out];exact a2));clear a2;go_wp2;go_ret3;exact⟨F1.out.trans' FR.out,.inl ⟨HL.out,rfl⟩⟩
   ·have n6:(kd==6)=false:=by simpa using h6
    have C:=hid (show t.nd.shaped o c=(true,o) by
     have hk:=Y.out;have e:=HE.out;rw[e]at hk⊢;simp only[beq_eq_false_iff_ne]at n2 n3 n4 n5 n6;have h4:kd=0∨kd=1∨kd=7∨kd=8:=by have:=(T.known_kd hk).1;omega
     clear e hk;rcases h4 with rfl|rfl|rfl|rfl<;>simp[T.nd,Nd.shaped])
    clear h4 h5 h6;go_wp2;go_meet;exact⟨o,rfl,C.out,Fr.refl _ _⟩
  case rest=>
   obtain⟨o1,rfl,a5,fx⟩:=hcut;have hE:=Nd.look_yes (n:=t.nd) (o:=o) (c:=c) (by rw[a5]);have d3:=Nd.shaped_le t.nd o c;rw[a5]at hE d3;obtain⟨F,hF⟩:∃F,Nd.looks t.nd.kids o1 c=F:=⟨_,rfl⟩;simp only[hF]at hE;have j5:o≤o1∧o1≤o+1:=d3;have e4:=hid hE;have HF:=hid hF;have FX:=hid fx;have g:=hid a5;clear hE hF fx a5 d3 d0 d6 d7 d8;go_wp2_with fail
   go_loopw [1,2,142] (fun s1 s2 i wr=>∃(k:Nat) (ok:Int) (ck:List Int),i=.int .i64 k∧k≤t.kids.length∧s1=.int .i64 ok∧Nd.looks (t.nd.kids.drop k) ok ck=F∧(o1≤ok∧ok≤o1+Nd.sizes (t.nd.kids.take k)∧ck.length≤c.length+Nd.sizes (t.nd.kids.take k))∧SI wr ck s2∧Fr nob wc wr) (fun _ _ i _=>t.kids.length-(intOf i).toNat)
   case atStart=>exact⟨0,o1,c,rfl,Nat.zero_le _,rfl,HF.out,⟨Int.le_refl _,by simp[Nd.sizes],by simp[Nd.sizes]⟩,e9.out.on (F1.out.trans' FX.out),Fr.refl _ _⟩
   case round=>
    obtain⟨k,ok,ck,rfl,hk,rfl,f5,hb,M,fr⟩:=hrel;have k6:=Nd.sizes_take_le t.nd.kids k;have c3:=hid f5;have Z:=hid M;have FR:=hid fr;have HB:=hid hb;clear f5 M fr hb;obtain⟨l3,l4,rfl⟩:=Z.out.shape;by_cases d:k<t.kids.length
    ·obtain⟨q,off,a0,cx,he,hx,r,c7⟩:=(S1.out.on (FX.out.trans' FR.out)).get d;injection he with e1 e2 e3;subst e1;subst e3;have D:k<t.nd.kids.length:=by have:=t.kids_len;omega
     have c8:=t.kid_at d D;have E:=hid (Nd.sizes_take D);have b8:=hid (Nd.sizes_take_le t.nd.kids (k+1));have j1:t.kids[k].nd.size<t.nd.size:=Nd.kid_lt (by rw[←c8];exact List.getElem_mem D);have d5:=T.known_kids Y.out _ (List.getElem_mem d);have c5:=List.drop_eq_getElem_cons D;rw[c8]at E c5;have b9:=hid c5;obtain⟨x,z⟩:∃x,t.kids[k]=x:=⟨_,rfl⟩;rw[z]at hx j1 d5 E b9;obtain⟨k',s',l2,k9,l0,l1,a',c',a6,rfl,J⟩:=hx.open';obtain⟨g0,g1,g2,g3,g4,g5,g6,g7,g8⟩:=r.nine;have HX:=hid hx;have i4:=hid d5;clear hx J a6 e2 r z c8 D c5 d5;go_wp2_with fail;refine(IH.out x _ _ ok ck _ (by omega) (by have:=HB.out;omega) (by have:=HB.out;have:=E.out;have:=b8.out;have:=d2.out;omega) (by have:=HB.out;have:=E.out;have:=b8.out;have:=d2.out;omega) i4.out HX.out Z.out).mono ?_;rintro e w3 ⟨f3,⟨hl,rfl⟩|⟨o',c',u',hl,rfl,b7⟩⟩
     ·have F3:=hid f3;have HL:=hid (show t.nd.look o c=none by rw[e4.out,←c3.out,b9.out,Nd.looks,hl]);clear f3 hl;go_wp2;go_ret3;exact⟨(F1.out.trans' FX.out).trans' (FR.out.trans' F3.out),.inl ⟨HL.out,rfl⟩⟩
     ·have g9:=Nd.look_le _ _ _ _ _ hl;have i3:=hid (show Nd.looks (t.nd.kids.drop (k+1)) o' c'=F by rw[←c3.out,b9.out,Nd.looks,hl]);have F3:=hid f3;have f0:=hid b7;have i2:=hid g9;clear f3 b7 g9 hl;go_wp2;go_roundw
      case rel=>exact⟨k+1,o',c',by go_num,by omega,rfl,i3.out,by have:=HB.out;have:=E.out;have:=i2.out;omega,f0.out,FR.out.trans' F3.out⟩
      case measure=>simp[intOf];omega
    ·obtain rfl:k=t.kids.length:=by omega
     have f4:F=some (ok,ck):=by rw[←c3.out,←t.kids_len,List.drop_length,Nd.looks]
     have d4:=(FX.out.trans' FR.out).heap i1.out (fun x=>x);have d0:=cell_at (j:=0) d4 rfl;have d8:=cell_at (j:=8) d4 rfl;have FW:=hid ((F1.out.trans' FX.out).trans' FR.out);have e7:=hid (show t.nd.look o c=some (ok,t.nd.shut ck) by rw[e4.out,f4]);clear d4 f4;by_cases h5:kd=5
     ·have G:=hid (show t.nd.shut ck=ck++[nu] by rw[HE.out,T.shut_kd,if_pos h5]);have i5:(kd==5)=true:=by simpa using h5
      clear h5;have j8:ck.length≤3000000:=by have:=HB.out;have:=d2.out;omega
      go_wp2_with fail
      go_region_held3 (fun w'=>w'.cell? ⟨w.heap.size,8,none⟩=some (.int .i64 nu))
       ((refine Fr.cell (S:=nob) (w:=wr) ?_ d8 (fun x=>x);(repeat(first|exact Fr.refl _ _|exact FB.out|exact FA.out|apply Fr.alloc|apply Fr.drew))))
       (first
        |(refine ZwA rfl (.tmp 164) (.tmp 165) rfl [] ck _ _ (by rfl) (ownsRow_empty (by first|exact Zg _ _ _ (by simp)|exact Ze _ (Zg _ _ _ (by simp)))) (by rfl) (Z.out.on (by repeat(first|exact Fr.refl _ _|apply Fr.alloc|apply Fr.drew))) (by first|(simp;done)|(simp;omega)) ?_;intro v3 w3 U c6 R;have e6:=hid c6;have FA:=hid (fr_new (wr:=wr) (by repeat(first|exact Fr.refl _ _|apply Fr.alloc|apply Fr.drew)) c6 (by simp));have a8:=hid U;have e8:=hid (Zxw (B:=wr.heap.size) R (by simp) (by first|(simp;done)|(simp;omega)));clear U c6 R)
        |(refine ZwA rfl (.tmp 166) (.tmp 169) rfl ck [nu] _ _ (by rfl) (by first|exact a8.out|exact a8.out.alloc _) (by rfl) (SI.one (by first|exact Zg _ _ _ (by simp)|exact e6.out.heap (Zg _ _ _ (by simp)) (by simp[Value.ownBlock])|exact e6.out.heap (Ze _ (Zg _ _ _ (by simp))) (by simp[Value.ownBlock]))) (by first|(simp;done)|(simp;omega)) ?_;intro v4 w4 V f8 d1;have FB:=hid (Fr.trans (S:=nob) (a:=wr) (by repeat(first|exact FA.out|apply Fr.alloc|apply Fr.drew)) f8 (fun i hi e=>by have:=e8.out i e;omega));have c2:=hid V;clear V f8 d1))
      all_goals
       go_wp2;go_ret3;exact⟨FW.out.trans' FB.out,.inr ⟨ok,_,_,e7.out,rfl,by rw[G.out];exact SI.of_own c2.out⟩⟩
     ·have G:=hid (show t.nd.shut ck=ck by rw[HE.out,T.shut_kd,if_neg h5]);have i5:(kd==5)=false:=by simpa using h5
      clear h5;go_wp2;go_ret3;exact⟨FW.out,.inr ⟨ok,_,_,e7.out,rfl,by rw[G.out];exact Z.out⟩⟩
theorem ZwX(t:T)(cs:List Value)(w:World)(hn:t.nd.size≤3000000)(hk:t.known=true)(h:RT nob w t cs):
 Calls Tryz.prog 74 #[.agg cs.toArray] w fun e w'=>e=.returned (.bool t.nd.right)∧Fr nob w w':=by
 obtain⟨kd,s,ps,mn,mx,nu,a,cp,ht,rfl,hs⟩:=h.open';have HT:=hid h;have HK:=hid hk;clear h hs ht hk;go_enter Tryz.func74,Tryz.ntmps74;go_wp2_with fail;refine(right_T t.nd.size t _ _ 0 [] _ (Nat.le_refl _) (by omega) (by omega) (by simpa using hn) HK.out (HT.out.on ((Fr.refl _ _).alloc _)) (.inl ⟨rfl,rfl⟩)).mono ?_;rintro e w1 ⟨f1,⟨hl,rfl⟩|⟨o',c',u',hl,rfl,b⟩⟩
 ·have HL:=hid (show t.nd.right=false by unfold Nd.right;rw[hl];rfl);have F1:=hid f1;clear hl f1;go_wp2;go_ret;exact⟨ret_bool HL.out.symm,((Fr.refl _ _).alloc _).trans' F1.out⟩
 ·have HL:=hid (show t.nd.right=true by unfold Nd.right;rw[hl];rfl);obtain⟨ua,uc,rfl⟩:=b.shape;have F1:=hid f1;clear hl f1 b;go_wp2;go_ret;exact⟨ret_bool HL.out.symm,((Fr.refl _ _).alloc _).trans' F1.out⟩
attribute [local go_sem ↓] Go.wp_at_zero Go.wp_at_succ
mutual
theorem T.nd_norm:∀t:T,t.nd.norm=t.nd
 | .mk k s ps mn mx nu=>by
   have h1:=T.nds_norm ps;have h2:=T.nd1_norm ps;simp only[T.nd];split
   ·simp[Nd.norm]
   split
   ·simp[Nd.norm,h1]
   split
   ·simp[Nd.norm,h1]
   split
   ·simp[Nd.norm,h2]
   split
   ·simp[Nd.norm,h2]
   split
   ·simp[Nd.norm]
   split
   ·simp[Nd.norm]
   split
   ·simp[Nd.norm]
   ·simp[Nd.norm]
theorem T.nds_norm:∀l:List T,Nd.norms (T.nds l)=T.nds l
 |[]=>rfl
 |t::ts=>by simp only[T.nds,Nd.norms,T.nd_norm t,T.nds_norm ts]
theorem T.nd1_norm:∀l:List T,(T.nd1 l).norm=T.nd1 l
 |[]=>rfl
 |t::_=>by simp only[T.nd1,T.nd_norm t]
end
mutual
theorem T.nd_size:∀t:T,t.nd.size≤2*t.bulk
 | .mk k s ps mn mx nu=>by
   have h1:=T.nds_size ps;have h2:=T.nd1_size ps;simp only[T.nd,T.bulk];split
   ·simp only[Nd.size];omega
   split
   ·simp only[Nd.size];omega
   split
   ·simp only[Nd.size];omega
   split
   ·simp only[Nd.size];omega
   split
   ·simp only[Nd.size];omega
   split
   ·simp only[Nd.size];omega
   split
   ·simp only[Nd.size];omega
   split
   ·simp only[Nd.size];omega
   ·simp only[Nd.size];omega
theorem T.nds_size:∀l:List T,Nd.sizes (T.nds l)≤2*T.bulks l
 |[]=>by simp[T.nds,Nd.sizes]
 |t::ts=>by have:=T.nd_size t;have:=T.nds_size ts;simp only[T.nds,Nd.sizes,T.bulks];omega
theorem T.nd1_size:∀l:List T,(T.nd1 l).size≤1+2*T.bulks l
 |[]=>by simp[T.nd1,Nd.size]
 |t::ts=>by have:=T.nd_size t;simp only[T.nd1,T.bulks];omega
end
theorem T.nd_iface{S:Nat→Prop}{w:World}{t:T}{v:Value}(h:RN S w t.nd v):∃i x,v=.iface i x:=by
 rcases h.shape with rfl|h
 ·have:=T.nd_norm t;have hn:t.nd=.nil:=by
   rcases h.tyv with⟨e,_⟩|⟨i,x,_,e⟩
   ·generalize t.nd=n at *;cases n<;>first|rfl|cases e
   ·cases e
  rw[hn]at this;cases this
 ·exact h
theorem RN.any{S:Nat→Prop}{w:World}{n:Nd}{v:Value}(h:RN S w n v):RN nob w n v:=RN.keep (Fr.refl nob _) (fun _ _ x=>x.elim) (fun _ _ x=>x.elim) _ _ h
namespace treeSames
open Go.ChangeShapes Go.WideShapes Go.ChangeAt Go.RowKit
theorem own:ownKnob Tryz.prog.godebug=none:=by kernel_rfl
theorem laidOut:laidOutB Tryz.prog=true:=by kernel_rfl
end treeSames
end Go.Proofs.YtkfddjopbocpkaaGreatDoor
