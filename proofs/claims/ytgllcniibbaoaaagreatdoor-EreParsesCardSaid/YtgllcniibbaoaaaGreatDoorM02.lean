/- Lemmas of this claim. -/
import Derived.Test.YtgllcniibbaoaaaGreatDoorM00
import Derived.Lib.Bytealg
import Derived.Laws.RangeAny
import Derived.Deep.RegionWith
import Derived.Test.YtgllcniibbaoaaaGreatDoorM01
set_option linter.all false
set_option maxRecDepth 100000
set_option maxHeartbeats 4000000
namespace Go.Proofs.YtgllcniibbaoaaaGreatDoor
open Go.RowKit
theorem Zbp(l:List UInt8):(ByteArray.mk l.toArray).size=l.length:=by simp[ByteArray.size]
theorem Zp6(l:List UInt8)(i:Nat)(h:i<(ByteArray.mk l.toArray).size):(ByteArray.mk l.toArray)[i]'h=l[i]'(by rw[Zbp]at h;exact h):=rfl
theorem Zm8(l:List UInt8)(a b:Nat):(ByteArray.mk l.toArray).extract a b=⟨((l.drop a).take (b-a)).toArray⟩:=by
 apply ByteArray.ext;rw[ByteArray.data_extract];apply Array.ext';simp[List.extract_eq_take_drop]
theorem ZqQ(l m:List UInt8):(ByteArray.mk l.toArray)++(ByteArray.mk m.toArray)=⟨(l++m).toArray⟩:=by
 apply ByteArray.ext;simp
theorem ZoV(l:List UInt8)(a:Nat):(ByteArray.mk l.toArray).extract a l.length=⟨(l.drop a).toArray⟩:=by
 rw[Zm8,List.take_of_length_le (by simp)]
attribute [go_sem] Zp6 ZqQ ZoV
theorem Zaf{P:Program}{t:TypeId}(l:List UInt8){lo hi:Int}(h:P.underlying t=some .string)(h0:0≤lo)(h1:lo≤hi)(h2:hi≤l.length)(w:World):
 (Instr.slice t (.string ⟨l.toArray⟩) (some (.int .i64 lo)) (some (.int .i64 hi)) none).run P w=.ok (.string ⟨((l.drop lo.toNat).take (hi.toNat-lo.toNat)).toArray⟩) w:=by
 rw[run_slice_string (P:=P) w t (ByteArray.mk l.toArray) .i64 .i64 lo hi h h0 h1 (by rw[Zbp];exact h2),Zm8]
theorem Zcy{a b:UInt8}(h:a=b):(((a.toNat:Int))==(b.toNat:Int))=true:=by rw[h];simp
theorem Zn{a b:UInt8}(h:a≠b):(((a.toNat:Int))==(b.toNat:Int))=false:=by
 rw[beq_eq_false_iff_ne];intro e;exact h (UInt8.toNat.inj (Int.ofNat.inj e))
theorem tn_eq{a b:UInt8}(h:a=b):(((a.toNat:Int)) !=(b.toNat:Int))=false:=by rw[bne,Zcy h];rfl
theorem ZoW{a b:UInt8}(h:a≠b):(((a.toNat:Int)) !=(b.toNat:Int))=true:=by rw[bne,Zn h];rfl
theorem Zcf(a:UInt8):(0:Int)≤a.toNat∧(a.toNat:Int)≤255:=by have:=a.toNat_lt;omega
theorem Zia{l:List UInt8}{k:Nat}(h:k<l.length):(l.drop k).take 1=[l[k]]:=by
 rw[List.drop_eq_getElem_cons h];rfl
theorem ZbH{P:Program}{t:TypeId}(l:List UInt8){k:Nat}{lo hi:Int}(h:P.underlying t=some .string)(hk:k<l.length)(h0:lo=k)(h1:hi=k+1)(w:World):
 (Instr.slice t (.string ⟨l.toArray⟩) (some (.int .i64 lo)) (some (.int .i64 hi)) none).run P w=.ok (.string ⟨[l[k]].toArray⟩) w:=by
 subst h0;subst h1;rw[Zaf l h (by omega) (by omega) (by omega),←Zia hk];simp
theorem ZdX{l p:List UInt8}(h:p.length≤l.length):(l.take p.length==p)=p.isPrefixOf l:=by
 rw[Bool.eq_iff_iff,beq_iff_eq,List.isPrefixOf_iff_prefix,List.prefix_iff_eq_take];exact eq_comm
theorem ZdY{l p:List UInt8}(h:¬p.length≤l.length):false=p.isPrefixOf l:=by
 symm;rw[Bool.eq_false_iff];intro e;rw[List.isPrefixOf_iff_prefix]at e
 exact h e.length_le
theorem pre1{l:List UInt8}{c:UInt8}{k:Nat}:([c].isPrefixOf (l.drop k)=true)↔l[k]? =some c:=by
 rw[←List.head?_drop];generalize l.drop k=m;cases m with
 |nil=>simp[List.isPrefixOf]
 |cons x m=>simp only[List.isPrefixOf,Bool.and_true,beq_iff_eq,List.head?_cons,Option.some.injEq];exact eq_comm
theorem ZjQ(bs:List UInt8):∀s:ByteArray,(bs.map fun b=>(b.toNat:Int)).foldl (fun(r:ByteArray) n=>r.push (UInt8.ofNat n.toNat)) s=⟨s.data++bs.toArray⟩:=by
 induction bs with
 |nil=>intro s;apply ByteArray.ext;simp
 |cons b bs ih=>
  intro s;rw[List.map_cons,List.foldl_cons,ih];apply ByteArray.ext;show(s.data.push _)++bs.toArray=_;simp
theorem Z1{P:Program}{src dst e:TypeId}(hs:P.underlying src=some (.slice e))(he:P.underlying e=some (.int .u8))(hd:P.underlying dst=some .string)(a:Addr)(cap:Nat)(bs:List UInt8)(W:World)
 (hc:∀j v,(ZP bs)[j]? =some v→W.cell? (a.add j)=some v):
 (convert src dst (.slice (some a) bs.length cap)).run P W=.ok (.string ⟨bs.toArray⟩) W:=by
 have hl:=run_loadCells_list (P:=P) W a (ZP bs) hc;rw[ZbF]at hl;rw[run_convert_bytes_string _ src dst e _ _ _ hs he hd,run_bytesToString (ns:=bs.map fun b=>(b.toNat:Int)),ZjQ]
 ·show Result.ok (Value.string ⟨(#[]:Array UInt8)++bs.toArray⟩) W=_;simp
 ·rw[hl];simp[ZP,ZeT,List.map_map,Function.comp_def]
theorem Zdp{P:Program}{src dst e:TypeId}(hs:P.underlying src=some (.slice e))(he:P.underlying e=some (.int .u8))(hd:P.underlying dst=some .string)(d d':UInt8)(W:World):
 (convert src dst (.slice (some ⟨W.heap.size,0,none⟩) 2 2)).run P (W.alloc (.cells #[.int .u8 d.toNat,.int .u8 d'.toNat] e))=.ok (.string ⟨#[d,d']⟩) (W.alloc (.cells #[.int .u8 d.toNat,.int .u8 d'.toNat] e)):=by
 refine Z1 hs he hd _ 2 [d,d'] _ ?_;intro j v hj
 match j,hj with
 |0,hj=>simp[ZP,ZeT]at hj;subst hj;simp[Addr.add,World.cell?_alloc_new]
 |1,hj=>simp[ZP,ZeT]at hj;subst hj;simp[Addr.add,World.cell?_alloc_new]
def ZaF(c:UInt8):List UInt8:=if c.toNat<128 then[c]else[(192+c.toNat/64).toUInt8,(128+c.toNat%64).toUInt8]
def wide:List UInt8→List UInt8
 |[]=>[]
 |c::r=>ZaF c++wide r
def ZoQ(l:List UInt8)(k:Nat):Option (UInt8×Nat):=
 let b:=(l[k]?.getD 0).toNat
 let c:=(l[k+1]?.getD 0).toNat
 if b<128 then some (b.toUInt8,1)
 else if(b=194∨b=195)∧k+1<l.length∧128≤c∧c<192 then some (((b-192)*64+c-128).toUInt8,2)
 else none
theorem ZfC(c:UInt8):1≤(ZaF c).length∧(ZaF c).length≤2:=by unfold ZaF;split<;>simp
theorem ZdZ(a b:List UInt8):wide (a++b)=wide a++wide b:=by
 induction a with
 |nil=>rfl
 |cons c r ih=>simp only[List.cons_append,wide,ih,List.append_assoc]
theorem ZfD{l:List UInt8}{k:Nat}(h:k<l.length):wide (l.take (k+1))=wide (l.take k)++ZaF l[k]:=by
 rw[List.take_succ_eq_append_getElem h,ZdZ];simp[wide]
theorem Zew{l:List UInt8}{k:Nat}(h:k<l.length):wide l=wide (l.take k)++(ZaF l[k]++wide (l.drop (k+1))):=by
 conv=>lhs;rw[←List.take_append_drop k l,ZdZ,List.drop_eq_getElem_cons h]
 rfl
theorem Znq(l:List UInt8):(wide l).length≤2*l.length∧l.length≤(wide l).length:=by
 induction l with
 |nil=>simp[wide]
 |cons c r ih=>have:=ZfC c;simp only[wide,List.length_append,List.length_cons];omega
theorem ZjR(p q:List UInt8)(c:UInt8):ZoQ (p++(ZaF c++q)) p.length=some (c,(ZaF c).length):=by
 have hc:=c.toNat_lt;unfold ZaF;split
 ·next h=>simp[ZoQ,h]
 ·next h=>
  have e1:(192+c.toNat/64).toUInt8.toNat=192+c.toNat/64:=by simp;omega
  have e2:(128+c.toNat%64).toUInt8.toNat=128+c.toNat%64:=by simp;omega
  unfold ZoQ;have g0:(p++([(192+c.toNat/64).toUInt8,(128+c.toNat%64).toUInt8]++q))[p.length]? =some (192+c.toNat/64).toUInt8:=by
   rw[List.getElem?_append_right (Nat.le_refl _),Nat.sub_self];rfl
  have g1:(p++([(192+c.toNat/64).toUInt8,(128+c.toNat%64).toUInt8]++q))[p.length+1]? =some (128+c.toNat%64).toUInt8:=by
   rw[List.getElem?_append_right (by omega),show p.length+1-p.length=1 by omega];rfl
  rw[g0,g1];simp only[Option.getD_some,e1,e2];rw[if_neg (by omega),if_pos ⟨by omega,by simp,by omega,by omega⟩];have:(192+c.toNat/64-192)*64+(128+c.toNat%64)-128=c.toNat:=by omega
  rw[this];simp
theorem Znr{l:List UInt8}{k:Nat}(h:k<l.length):ZoQ (wide l) (wide (l.take k)).length=some (l[k],(ZaF l[k]).length):=by
 rw[Zew h];exact ZjR _ _ _
theorem Zns{l:List UInt8}{k:Nat}(h:k<l.length):(wide (l.take k)).length<(wide l).length:=by
 conv=>rhs;rw[Zew h]
 have:=ZfC l[k];simp only[List.length_append];omega
theorem Znt(l:List UInt8)(i:Nat):((ByteArray.mk l.toArray).get! i)=l[i]?.getD 0:=by
 show(l.toArray)[i]! =_;rw[getElem!_def];simp;cases l[i]? <;>rfl
theorem ZiT{l:List UInt8}{k m:Nat}{c:UInt8}(h:k<l.length)(e:ZoQ l k=some (c,m)):Utf8.decode ⟨l.toArray⟩ k=(c.toNat,m):=by
 unfold ZoQ at e;unfold Utf8.decode;simp only[Znt,Zbp,Nat.add_zero]at e⊢;have hb:=(l[k]?.getD 0).toNat_lt;have hc:=(l[k+1]?.getD 0).toNat_lt;generalize(l[k]?.getD 0).toNat=b at *;generalize(l[k+1]?.getD 0).toNat=d at *;split at e
 ·next f=>
  rw[if_pos f];injection e with e;injection e with e1 e2;subst e1;subst e2;simp;omega
 ·next a=>
  rw[if_neg a];split at e
  ·next hx=>
   injection e with e;injection e with e1 e2;subst e1;subst e2;have q1:(b/32==6)=true:=by simp;omega
   have q2:(d/64==2)=true:=by simp;omega
   have q3:decide (k+1<l.length)=true:=by simp;omega
   simp only[q1,q2,q3,Bool.and_self,if_true];rw[if_pos (by omega)];simp;omega
  ·cases e
open Go.Lib (hid)
theorem appendRune_any(v:Value)(n:Nat)(xs:List Value)(c:UInt8)(w:World)(hown:w.ownsRow 0 5 1 v n xs)(hn:n+2≤140737488355328):
 Calls Tryz.prog 124 #[v,.int .i32 (c.toNat:Int)] w fun e w'=>∃v',e=.returned v'∧w'.ownsRow 0 5 1 v' (n+(ZaF c).length) (xs++ZP (ZaF c))∧
  Fr (fun k=>v.ownBlock=some k) w w'∧(∀k,v'.ownBlock=some k→v.ownBlock=some k∨w.heap.size≤k)∧v'≠.slice none 0 0:=by
 obtain⟨i0,hi,i,l,m⟩:=info_parts ZeW;by_cases h:c.toNat<128
 ·have hw:=hid (show ZaF c=[c] by unfold ZaF;rw[if_pos h]);have h':(c.toNat:Int)≤127:=by omega
  go_enter Tryz.func124,Tryz.ntmps124;go_wp2_with(at_builtin;refine wpList_append_g rfl _ _ 166 rfl 5 i0 (.int .u8 0) 1 1 Tryz.underlying166 hi i l m rfl (by decide) _ _ _ rfl (hown.alloc _) ⟨w.heap.size,0,none⟩ 1 1 [.int .u8 (c.toNat:Int)] rfl rfl ?c1 ?c2 ?c3 ?c4 ?_)
  case c1=>
   intro j u hj
   match j,hj with
   |0,hj=>simp at hj;subst hj;simp[Addr.add]
  case c2=>intro u hu;simp at hu;subst hu;rfl
  case c3=>unfold maxLen;omega
  case c4=>omega
  intro v' w2 a b;have HO:=hid a;have HA:=hid b;clear a b;go_wp2;go_ret;refine⟨v',rfl,?_,((Fr.refl (fun k=>v.ownBlock=some k) w).alloc _).trans' HA.out.fr,?_,fun e=>by have:=HA.out.nil.1 e;omega⟩
  ·rw[hw.out];exact HO.out
  ·intro k hk;rcases HA.out.old k hk with h1|h1
   ·exact .inl h1
   ·simp at h1;exact .inr (by omega)
 ·have hw:=hid (show ZaF c=[(192+c.toNat/64).toUInt8,(128+c.toNat%64).toUInt8] by unfold ZaF;rw[if_neg h]);have o:=c.toNat_lt;have h':(128:Int)≤(c.toNat:Int):=by omega
  have h2:(c.toNat:Int)≤255:=by omega
  have q1:192+(c.toNat:Int)/64=((192+c.toNat/64).toUInt8.toNat:Int):=by simp;omega
  have q2:128+(c.toNat:Int)%64=((128+c.toNat%64).toUInt8.toNat:Int):=by simp;omega
  obtain⟨x1,f⟩:∃x,(192+c.toNat/64).toUInt8=x:=⟨_,rfl⟩;obtain⟨x2,g⟩:∃x,(128+c.toNat%64).toUInt8=x:=⟨_,rfl⟩;rw[f]at q1 hw;rw[g]at q2 hw;have Q1:=hid q1;have Q2:=hid q2;clear f g q1 q2;go_enter Tryz.func124,Tryz.ntmps124;go_wp2_with fail;have d:=hid hown;clear hown;refine(show Calls Tryz.prog 150 #[v,.int .i32 (c.toNat:Int)] w fun e w'=>∃v',e=.returned v'∧w'.ownsRow 0 5 1 v' (n+2) (xs++ZP [x1,x2])∧
   Fr (fun k=>v.ownBlock=some k) w w'∧(∀k,v'.ownBlock=some k→v.ownBlock=some k∨w.heap.size≤k)∧v'≠.slice none 0 0 from ?_).mono ?_
  ·go_enter Tryz.func150,Tryz.ntmps150;go_wp2_with(at_builtin;refine wpList_append_g rfl _ _ 166 rfl 5 i0 (.int .u8 0) 1 1 Tryz.underlying166 hi i l m rfl (by decide) _ _ _ rfl (d.out.alloc _) ⟨w.heap.size,0,none⟩ 2 2 [.int .u8 (x1.toNat:Int),.int .u8 (x2.toNat:Int)] rfl rfl ?d1 ?d2 ?d3 ?d4 ?_)
   case d1=>
    intro j u hj
    match j,hj with
    |0,hj=>simp at hj;subst hj;simp[Addr.add];exact Q1.out
    |1,hj=>simp at hj;subst hj;simp[Addr.add];exact Q2.out
   case d2=>intro u hu;simp at hu;rcases hu with rfl|rfl<;>rfl
   case d3=>unfold maxLen;omega
   case d4=>omega
   intro v' w2 a b;have HO:=hid a;have HA:=hid b;clear a b;go_wp2;go_ret;refine⟨v',rfl,HO.out,((Fr.refl (fun k=>v.ownBlock=some k) w).alloc _).trans' HA.out.fr,?_,fun e=>by have:=HA.out.nil.1 e;omega⟩;intro k hk;rcases HA.out.old k hk with h1|h1
   ·exact .inl h1
   ·simp at h1;exact .inr (by omega)
  ·rintro e w2 ⟨v',rfl,hr⟩;have HR:=hid hr;clear hr;go_wp2;go_ret;exact⟨v',rfl,by rw[hw.out];exact HR.out.1,HR.out.2⟩
theorem ZeY(T:TypeId)(b o:Nat)(cs:Array Value)(bs:List UInt8)(g:Option Nat)(c:UInt8)(w:World)(h:Zc3 5 T b o cs bs g w)(hl:Zfx T cs.size o)(hlen:bs.length≤140737488355326):
 Calls Tryz.prog 95 #[.pointer (some ⟨b,o,none⟩),.int .i32 (c.toNat:Int)] w fun e w'=>(∃r,e=.returned r)∧
  ∃v',Zc3 5 T b o (ZaK cs b o v') (bs++ZaF c) v'.ownBlock w'∧Fr (fun k=>k=b∨some k=g) w w'∧(∀k,v'.ownBlock=some k→some k=g∨w.heap.size≤k):=by
 have HL:=hid hl;clear hl;go_enter Tryz.func95,Tryz.ntmps95;go_wp2_with(go_at_call 123;refine(copyCheck_any T b o cs bs g _ h HL.out).mono ?_);rintro e w1 ⟨rfl,h1,C⟩;obtain⟨hb,ho,hp,v,hv,i,hg,E,F⟩:=h1;have c1:w1.cell? ⟨b,o+1,none⟩=some v:=cell_at hb hv;obtain⟨va,vc,rfl⟩:=Zb i;have HB:=hid hb;have HO:=hid ho;have HV:=hid hv;have HG:=hid hg;have HN:=hid E;have HP:=hid hp;have HI:=hid F;have B:=hid i;clear hb ho hv hg E hp F i;go_wp2_with fail;refine(appendRune_any _ _ _ c _ B.out (by omega)).mono ?_;rintro e w2 ⟨v',rfl,j,d,a,J⟩;have hb:=HB.out;have f:=HG.out;have z:=HN.out;have n:w2.heap[b]? =some (.cells (cs.setIfInBounds o (.pointer (some ⟨b,o,none⟩))) T (0,0)):=
  d.heap hb (fun e=>z (by rw[←f,e]))
 have d1:w2.cell? ⟨b,o+1,none⟩=some (.slice va bs.length vc):=cell_at n HV.out;have f1:w2.frozen? ⟨b,o+1,none⟩=false:=ZF n _;have M:=lt_heap hb;have t:v'.ownBlock≠some b:=by
  intro e;rcases a b e with h|h
  ·exact z (by rw[←f,h])
  ·omega
 have u:∀k,v'.ownBlock=some k→some k=g∨w.heap.size≤k:=by
  intro k hk;have:=C.size;rcases a k hk with h|h
  ·exact .inl (by rw[←f,h])
  ·exact .inr (by omega)
 have l:w2.ownsRow 0 5 1 v' (bs++ZaF c).length (ZP (bs++ZaF c)):=by
  rw[Zaj,List.length_append];exact j
 have D:Fr (fun k=>k=b∨some k=g) w w2:=by
  refine(C.mono (fun _ _ h=>Or.inl h)).trans d (fun k _ h=>Or.inr ?_);rw[←f,h]
 have x:bs++ZaF c=[]→v'=.slice none 0 0:=fun h=>by
  rw[List.append_eq_nil_iff]at h;have:=h.2;unfold ZaF at this;split at this<;>simp at this
 obtain⟨ga,gc,K⟩:=Zb l;have A:=hid x;clear x;have G:=hid n;have y:=hid t;have q:=hid u;have s:=hid l;have H:=hid D;clear hb n f z t u l j D d a J;subst K;have L:(ZaF c).length≤2:=by unfold ZaF;split<;>simp
 have I:(bs++ZaF c).length=bs.length+(ZaF c).length:=List.length_append;obtain⟨m,hm⟩:∃m,(bs++ZaF c).length=m:=⟨_,rfl⟩;rw[hm]at A y q s⊢;have N:bs.length≤m:=by omega
 have O:m≤140737488355328:=by omega
 have HM:=hid hm;clear L I hm;go_wp2;go_ret2;have ho:=HO.out;refine⟨⟨_,rfl⟩,_,⟨Za G.out _ _,?_,.inr ?_,_,ZdU ho,?_,rfl,y.out,A.out⟩,?_,q.out⟩
 ·rw[ZY];simpa using ho
 ·unfold ZaK;rw[Zau (by omega)];exact ZdU (by simp at ho;omega)
 ·rw[HM.out];exact ownsRow_fr s.out ((Fr.refl (fun k=>k=b) w2).setCell (p:=⟨b,o+1,none⟩) (fun _=>rfl) _) (fun k hk e=>y.out (by rw[hk,e]))
 ·exact H.out.setCell (p:=⟨b,o+1,none⟩) (fun _=>Or.inl rfl) _
theorem bb_writeRune(b:Nat)(out:List UInt8)(c:UInt8)(g:Option Nat)(w:World)(h:Bb b out g w)(hlen:out.length≤140737488355326):
 Calls Tryz.prog 95 #[.pointer (some ⟨b,0,none⟩),.int .i32 (c.toNat:Int)] w fun e w'=>(∃r,e=.returned r)∧
  ∃g',Bb b (out++ZaF c) g' w'∧Fr (fun k=>k=b∨some k=g) w w'∧(∀k,g'=some k→some k=g∨w.heap.size≤k):=by
 obtain⟨cs,hb,hs⟩:=h;refine(ZeY _ b 0 cs out g c w hb (Zfy hs) hlen).mono ?_;rintro e w' ⟨he,v',a,hf,hn⟩;exact⟨he,_,⟨_,a,by rw[ZY];exact hs⟩,hf,hn⟩
theorem ZlR(l:List UInt8)(w:World)(hl:l.length≤1000000):
 Calls Tryz.prog 57 #[.string ⟨l.toArray⟩] w fun e w'=>e=.returned (.string ⟨(wide l).toArray⟩)∧Fr nob w w':=by
 go_enter Tryz.func57,Tryz.ntmps57;go_wp2_with fail
 go_loopw [7] (fun i wr=>∃(k:Nat) (g:Option Nat),i=.int .i64 k∧k≤l.length∧Bb w.heap.size (wide (l.take k)) g wr∧Fr nob w wr∧(∀j,g=some j→w.heap.size≤j)) (fun i _=>l.length-(intOf i).toNat)
 case atStart=>exact⟨0,none,rfl,Nat.zero_le _,Bb.new _,(Fr.refl _ _).alloc _,fun _ h=>(by cases h)⟩
 case round=>
  obtain⟨k,g,rfl,hk,hr,d,hg⟩:=hrel;have HR:=hid hr;have a:=hid d;have HG:=hid hg;clear hr d hg;by_cases q:k<l.length
  ·have s:(wide (l.take k)).length≤2000000:=by have:=(Znq (l.take k)).1;have:=List.length_take_le k l;omega
   have HT:=hid (ZfD q);have t:=Zcf l[k];go_wp2_with fail;refine(bb_writeRune _ _ l[k] g _ HR.out (by omega)).mono ?_;rintro e w1 ⟨⟨r,rfl⟩,g1,h1,b,f⟩;have m:=hid h1;have n:=hid (ZcJ (g':=none) (Nat.le_refl _) a.out HG.out b);have p:=hid (ZdV a.out HG.out f);clear h1 b f;go_wp2;go_roundw
   case rel=>exact⟨k+1,g1,by go_num,by omega,by rw[HT.out];exact m.out,n.out,p.out⟩
   case measure=>simp[intOf];omega
  ·obtain rfl:k=l.length:=by omega
   have HT:=hid (List.take_of_length_le (l:=l) (Nat.le_refl _));go_wp2_with fail;refine(bb_string _ _ g _ HR.out).mono ?_;rw[HT.out];rintro e w2 ⟨rfl,c⟩;have o:=hid c;clear c;go_wp2;go_ret;exact⟨rfl,a.out.trans o.out (fun i hi h=>by have:=HG.out i h.symm;omega)⟩
theorem ZjS(w:World)(k:Nat)(s:ByteArray)(p:Nat):Fr (fun j=>j=k) w (w.iterAt k s p):=
 ⟨rfl,rfl,rfl,by rw[Lib.iterAt_size];exact Nat.le_refl _,fun i _ hi=>Lib.iterAt_other w k i s p hi⟩
def nm(at_:Nat):List UInt8→Nat→Nat→Nat×Nat×Int
 |[],n,c=>if c=0 then(0,at_,2)else(n,at_+c,0)
 |x::r,n,c=>if 48≤x.toNat∧x.toNat≤57 then(if c=9 then(0,at_,3)else nm at_ r (n*10+(x.toNat-48)) (c+1))else if c=0 then(0,at_,2)else(n,at_+c,0)
def tr(l cs:List UInt8):List UInt8:=(l.reverse.dropWhile (cs.contains ·)).reverse
end Go.Proofs.YtgllcniibbaoaaaGreatDoor
