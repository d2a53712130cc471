/- Lemmas of this claim. -/
import Derived.Test.YtgllcniibbaoaaaGreatDoorJ00
import Derived.Lib.Bytealg
import Derived.Laws.RangeAny
import Derived.Deep.RegionWith
import Derived.Test.YtgllcniibbaoaaaGreatDoorJ01
set_option linter.all false
set_option maxRecDepth 100000
set_option maxHeartbeats 24000000
namespace Go.Proofs.YtgllcniibbaoaaaGreatDoor
open Go.Proofs.Tryz
open Go.RowKit
theorem Zbp(l:List UInt8):(ByteArray.mk l.toArray).size=l.length:=by simp[ByteArray.size]
theorem Zp6(l:List UInt8)(i:Nat)(h:i<(ByteArray.mk l.toArray).size):(ByteArray.mk l.toArray)[i]'h=l[i]'(by rw[Zbp]at h;exact h):=rfl
theorem Zm8(l:List UInt8)(a b:Nat):(ByteArray.mk l.toArray).extract a b=⟨((l.drop a).take (b-a)).toArray⟩:=by
 apply ByteArray.ext;rw[ByteArray.data_extract];apply Array.ext';simp[List.extract_eq_take_drop]
theorem ZoV(l:List UInt8)(a:Nat):(ByteArray.mk l.toArray).extract a l.length=⟨(l.drop a).toArray⟩:=by
 rw[Zm8,List.take_of_length_le (by simp)]
attribute [go_sem] Zp6 ZoV
theorem Zaf{P:Program}{t:TypeId}(l:List UInt8){lo hi:Int}(h:P.underlying t=some .string)(h0:0≤lo)(h1:lo≤hi)(h2:hi≤l.length)(w:World):
 (Instr.slice t (.string ⟨l.toArray⟩) (some (.int .i64 lo)) (some (.int .i64 hi)) none).run P w=.ok (.string ⟨((l.drop lo.toNat).take (hi.toNat-lo.toNat)).toArray⟩) w:=by
 rw[run_slice_string (P:=P) w t (ByteArray.mk l.toArray) .i64 .i64 lo hi h h0 h1 (by rw[Zbp];exact h2),Zm8]
theorem Zcy{a b:UInt8}(h:a=b):(((a.toNat:Int))==(b.toNat:Int))=true:=by rw[h];simp
theorem Zn{a b:UInt8}(h:a≠b):(((a.toNat:Int))==(b.toNat:Int))=false:=by
 rw[beq_eq_false_iff_ne];intro e;exact h (UInt8.toNat.inj (Int.ofNat.inj e))
theorem rx_no{c d:UInt8}{rx:Bool}(h:c=d)(hn:¬(c=d∧rx=true)):rx=false:=by cases rx<;>simp_all
theorem Zcf(a:UInt8):(0:Int)≤a.toNat∧(a.toNat:Int)≤255:=by have:=a.toNat_lt;omega
theorem ZaY(a:UInt8):((a.toNat:Int)).toNat.toUInt8=a:=by simp
theorem ZdX{l p:List UInt8}(h:p.length≤l.length):(l.take p.length==p)=p.isPrefixOf l:=by
 rw[Bool.eq_iff_iff,beq_iff_eq,List.isPrefixOf_iff_prefix,List.prefix_iff_eq_take];exact eq_comm
theorem ZdY{l p:List UInt8}(h:¬p.length≤l.length):false=p.isPrefixOf l:=by
 symm;rw[Bool.eq_false_iff];intro e;rw[List.isPrefixOf_iff_prefix]at e
 exact h e.length_le
def nxt(l:List UInt8)(c:UInt8)(k:Nat):Nat:=k+(l.drop k).idxOf c
theorem ZoY{l:List UInt8}{c:UInt8}{k:Nat}(h:k≤l.length):nxt l c k≤l.length:=by
 have:=List.idxOf_le_length (a:=c) (l:=l.drop k);simp[nxt]at *;omega
def adv(l:List UInt8)(c:UInt8)(k:Nat):Nat:=if l[k]? =some c then k+1 else k
theorem ZjP{l:List UInt8}{k:Nat}{c:UInt8}(h:k≤l.length):adv l c k≤l.length:=by
 unfold adv;split
 ·next e=>have:=(List.getElem?_eq_some_iff.1 e).1;omega
 ·exact h
def brE(l:List UInt8)(at_:Nat):Nat:=min (nxt l 93 (adv l 93 (adv l 94 (at_+1)))+1) l.length
theorem ZlH{l:List UInt8}{c:UInt8}{k:Nat}:([c].isPrefixOf (l.drop k)=true)↔l[k]? =some c:=by
 rw[←List.head?_drop];generalize l.drop k=m;cases m with
 |nil=>simp[List.isPrefixOf]
 |cons x m=>simp only[List.isPrefixOf,Bool.and_true,beq_iff_eq,List.head?_cons,Option.some.injEq];exact eq_comm
theorem Zm9{l:List UInt8}{c:UInt8}{k:Nat}(e:[c].isPrefixOf (l.drop k)=true):adv l c k=k+1:=if_pos (ZlH.1 e)
theorem Zna{l:List UInt8}{c:UInt8}{k:Nat}(e:[c].isPrefixOf (l.drop k)=false):adv l c k=k:=if_neg (fun h=>by rw[ZlH.2 h]at e;cases e)
theorem Znb{l:List UInt8}{c:UInt8}{k:Nat}:k≤nxt l c k:=by unfold nxt;omega
theorem ZbI(l:List UInt8)(c:UInt8):Lib.indexByte l c=if l.idxOf c<l.length then(l.idxOf c:Int)else -1:=by
 induction l with
 |nil=>simp[Lib.indexByte]
 |cons b l ih=>
  rw[Lib.indexByte,List.idxOf_cons];by_cases h:(b==c)=true
  ·simp[h]
  ·rw[if_neg h,ih];simp only[h,Bool.false_eq_true,if_false,cond_false,List.length_cons];have:=List.idxOf_le_length (a:=c) (l:=l);by_cases h2:l.idxOf c<l.length
   ·rw[if_pos h2,if_neg (by simp),if_pos (by omega)];omega
   ·rw[if_neg h2,if_pos (by rfl),if_neg (by omega)]
theorem Zb1(l:List UInt8)(c:UInt8): -1≤Lib.indexByte l c∧Lib.indexByte l c≤l.length:=by
 rw[ZbI];have:=List.idxOf_le_length (a:=c) (l:=l);split<;>omega
theorem ZeX{l:List UInt8}{c:UInt8}{k:Nat}(h:k≤l.length):Lib.indexByte (l.drop k) c=if nxt l c k<l.length then(nxt l c k:Int)-k else -1:=by
 rw[ZbI];unfold nxt;have:=List.idxOf_le_length (a:=c) (l:=l.drop k);simp only[List.length_drop]at *;by_cases h2:(l.drop k).idxOf c<l.length-k
 ·rw[if_pos h2,if_pos (by omega)];omega
 ·rw[if_neg h2,if_neg (by omega)]
theorem Zib{l:List UInt8}{c:UInt8}{a k:Nat}:a+adv (l.drop a) c k=adv l c (a+k):=by
 unfold adv;rw[List.getElem?_drop];split<;>omega
theorem ZlQ{l:List UInt8}{c:UInt8}{a k:Nat}:a+nxt (l.drop a) c k=nxt l c (a+k):=by
 unfold nxt;rw[List.drop_drop];omega
theorem ZdD{l:List UInt8}{a:Nat}(h:a≤l.length):a+brE (l.drop a) 0=brE l a:=by
 unfold brE;rw[←Zib (l:=l) (c:=94) (a:=a) (k:=1),←Zib (l:=l) (c:=93) (a:=a),←ZlQ (l:=l) (c:=93) (a:=a)];simp only[List.length_drop,Nat.zero_add];omega
theorem ZjQ(bs:List UInt8):∀s:ByteArray,(bs.map fun b=>(b.toNat:Int)).foldl (fun(r:ByteArray) n=>r.push (UInt8.ofNat n.toNat)) s=⟨s.data++bs.toArray⟩:=by
 induction bs with
 |nil=>intro s;apply ByteArray.ext;simp
 |cons b bs ih=>
  intro s;rw[List.map_cons,List.foldl_cons,ih];apply ByteArray.ext;show(s.data.push _)++bs.toArray=_;simp
theorem Z1{P:Program}{src dst e:TypeId}(hs:P.underlying src=some (.slice e))(he:P.underlying e=some (.int .u8))(hd:P.underlying dst=some .string)(a:Addr)(cap:Nat)(bs:List UInt8)(W:World)
 (hc:∀j v,(ZP bs)[j]? =some v→W.cell? (a.add j)=some v):
 (convert src dst (.slice (some a) bs.length cap)).run P W=.ok (.string ⟨bs.toArray⟩) W:=by
 have hl:=run_loadCells_list (P:=P) W a (ZP bs) hc;rw[ZbF]at hl;rw[run_convert_bytes_string _ src dst e _ _ _ hs he hd,run_bytesToString (ns:=bs.map fun b=>(b.toNat:Int)),ZjQ]
 ·show Result.ok (Value.string ⟨(#[]:Array UInt8)++bs.toArray⟩) W=_;simp
 ·rw[hl];simp[ZP,ZeT,List.map_map,Function.comp_def]
theorem Zdp{P:Program}{src dst e:TypeId}(hs:P.underlying src=some (.slice e))(he:P.underlying e=some (.int .u8))(hd:P.underlying dst=some .string)(d d':UInt8)(W:World):
 (convert src dst (.slice (some ⟨W.heap.size,0,none⟩) 2 2)).run P (W.alloc (.cells #[.int .u8 d.toNat,.int .u8 d'.toNat] e))=.ok (.string ⟨#[d,d']⟩) (W.alloc (.cells #[.int .u8 d.toNat,.int .u8 d'.toNat] e)):=by
 refine Z1 hs he hd _ 2 [d,d'] _ ?_;intro j v hj
 match j,hj with
 |0,hj=>simp[ZP,ZeT]at hj;subst hj;simp[Addr.add,World.cell?_alloc_new]
 |1,hj=>simp[ZP,ZeT]at hj;subst hj;simp[Addr.add,World.cell?_alloc_new]
def ZaF(c:UInt8):List UInt8:=if c.toNat<128 then[c]else[(192+c.toNat/64).toUInt8,(128+c.toNat%64).toUInt8]
def Zco:List UInt8→List UInt8
 |[]=>[]
 |c::r=>ZaF c++Zco r
def ZoQ(l:List UInt8)(k:Nat):Option (UInt8×Nat):=
 let b:=(l[k]?.getD 0).toNat
 let c:=(l[k+1]?.getD 0).toNat
 if b<128 then some (b.toUInt8,1)
 else if(b=194∨b=195)∧k+1<l.length∧128≤c∧c<192 then some (((b-192)*64+c-128).toUInt8,2)
 else none
theorem ZfC(c:UInt8):1≤(ZaF c).length∧(ZaF c).length≤2:=by unfold ZaF;split<;>simp
theorem ZdZ(a b:List UInt8):Zco (a++b)=Zco a++Zco b:=by
 induction a with
 |nil=>rfl
 |cons c r ih=>simp only[List.cons_append,Zco,ih,List.append_assoc]
theorem ZfD{l:List UInt8}{k:Nat}(h:k<l.length):Zco (l.take (k+1))=Zco (l.take k)++ZaF l[k]:=by
 rw[List.take_succ_eq_append_getElem h,ZdZ];simp[Zco]
theorem Zew{l:List UInt8}{k:Nat}(h:k<l.length):Zco l=Zco (l.take k)++(ZaF l[k]++Zco (l.drop (k+1))):=by
 conv=>lhs;rw[←List.take_append_drop k l,ZdZ,List.drop_eq_getElem_cons h]
 rfl
theorem Znq(l:List UInt8):(Zco l).length≤2*l.length∧l.length≤(Zco l).length:=by
 induction l with
 |nil=>simp[Zco]
 |cons c r ih=>have:=ZfC c;simp only[Zco,List.length_append,List.length_cons];omega
theorem ZjR(p q:List UInt8)(c:UInt8):ZoQ (p++(ZaF c++q)) p.length=some (c,(ZaF c).length):=by
 have hc:=c.toNat_lt;unfold ZaF;split
 ·next h=>simp[ZoQ,h]
 ·next h=>
  have e1:(192+c.toNat/64).toUInt8.toNat=192+c.toNat/64:=by simp;omega
  have e2:(128+c.toNat%64).toUInt8.toNat=128+c.toNat%64:=by simp;omega
  unfold ZoQ;have g0:(p++([(192+c.toNat/64).toUInt8,(128+c.toNat%64).toUInt8]++q))[p.length]? =some (192+c.toNat/64).toUInt8:=by
   rw[List.getElem?_append_right (Nat.le_refl _),Nat.sub_self];rfl
  have g1:(p++([(192+c.toNat/64).toUInt8,(128+c.toNat%64).toUInt8]++q))[p.length+1]? =some (128+c.toNat%64).toUInt8:=by
   rw[List.getElem?_append_right (by omega),show p.length+1-p.length=1 by omega];rfl
  rw[g0,g1];simp only[Option.getD_some,e1,e2];rw[if_neg (by omega),if_pos ⟨by omega,by simp,by omega,by omega⟩];have:(192+c.toNat/64-192)*64+(128+c.toNat%64)-128=c.toNat:=by omega
  rw[this];simp
theorem Znr{l:List UInt8}{k:Nat}(h:k<l.length):ZoQ (Zco l) (Zco (l.take k)).length=some (l[k],(ZaF l[k]).length):=by
 rw[Zew h];exact ZjR _ _ _
theorem Zns{l:List UInt8}{k:Nat}(h:k<l.length):(Zco (l.take k)).length<(Zco l).length:=by
 conv=>rhs;rw[Zew h]
 have:=ZfC l[k];simp only[List.length_append];omega
theorem Znt(l:List UInt8)(i:Nat):((ByteArray.mk l.toArray).get! i)=l[i]?.getD 0:=by
 show(l.toArray)[i]! =_;rw[getElem!_def];simp;cases l[i]? <;>rfl
theorem ZiT{l:List UInt8}{k m:Nat}{c:UInt8}(h:k<l.length)(e:ZoQ l k=some (c,m)):Utf8.decode ⟨l.toArray⟩ k=(c.toNat,m):=by
 unfold ZoQ at e;unfold Utf8.decode;simp only[Znt,Zbp,Nat.add_zero]at e⊢;have hb:=(l[k]?.getD 0).toNat_lt;have hc:=(l[k+1]?.getD 0).toNat_lt;generalize(l[k]?.getD 0).toNat=b at *;generalize(l[k+1]?.getD 0).toNat=d at *;split at e
 ·next f=>
  rw[if_pos f];injection e with e;injection e with e1 e2;subst e1;subst e2;simp;omega
 ·next a=>
  rw[if_neg a];split at e
  ·next hx=>
   injection e with e;injection e with e1 e2;subst e1;subst e2;have q1:(b/32==6)=true:=by simp;omega
   have q2:(d/64==2)=true:=by simp;omega
   have q3:decide (k+1<l.length)=true:=by simp;omega
   simp only[q1,q2,q3,Bool.and_self,if_true];rw[if_pos (by omega)];simp;omega
  ·cases e
open Go.Lib (hid)
theorem appendRune_any(v:Value)(n:Nat)(xs:List Value)(c:UInt8)(w:World)(hown:w.ownsRow 0 5 1 v n xs)(hn:n+2≤140737488355328):
 Calls prog 124 #[v,.int .i32 (c.toNat:Int)] w fun e w'=>∃v',e=.returned v'∧w'.ownsRow 0 5 1 v' (n+(ZaF c).length) (xs++ZP (ZaF c))∧
  Fr (fun k=>v.ownBlock=some k) w w'∧(∀k,v'.ownBlock=some k→v.ownBlock=some k∨w.heap.size≤k)∧v'≠.slice none 0 0:=by
 obtain⟨i0,hi,i,l,m⟩:=info_parts ZeW;by_cases h:c.toNat<128
 ·have hw:=hid (show ZaF c=[c] by unfold ZaF;rw[if_pos h]);have h':(c.toNat:Int)≤127:=by omega
  go_enter func124,ntmps124;go_wp2_with(at_builtin;refine wpList_append_g rfl _ _ 166 rfl 5 i0 (.int .u8 0) 1 1 underlying166 hi i l m rfl (by decide) _ _ _ rfl (hown.alloc _) ⟨w.heap.size,0,none⟩ 1 1 [.int .u8 (c.toNat:Int)] rfl rfl ?c1 ?c2 ?c3 ?c4 ?_)
  case c1=>
   intro j u hj
   match j,hj with
   |0,hj=>simp at hj;subst hj;simp[Addr.add]
  case c2=>intro u hu;simp at hu;subst hu;rfl
  case c3=>unfold maxLen;omega
  case c4=>omega
  intro v' w2 a b;have HO:=hid a;have HA:=hid b;clear a b;go_wp2;go_ret;refine⟨v',rfl,?_,((Fr.refl (fun k=>v.ownBlock=some k) w).alloc _).trans' HA.out.fr,?_,fun e=>by have:=HA.out.nil.1 e;omega⟩
  ·rw[hw.out];exact HO.out
  ·intro k hk;rcases HA.out.old k hk with h1|h1
   ·exact .inl h1
   ·simp at h1;exact .inr (by omega)
 ·have hw:=hid (show ZaF c=[(192+c.toNat/64).toUInt8,(128+c.toNat%64).toUInt8] by unfold ZaF;rw[if_neg h]);have o:=c.toNat_lt;have h':(128:Int)≤(c.toNat:Int):=by omega
  have h2:(c.toNat:Int)≤255:=by omega
  have q1:192+(c.toNat:Int)/64=((192+c.toNat/64).toUInt8.toNat:Int):=by simp;omega
  have q2:128+(c.toNat:Int)%64=((128+c.toNat%64).toUInt8.toNat:Int):=by simp;omega
  obtain⟨x1,f⟩:∃x,(192+c.toNat/64).toUInt8=x:=⟨_,rfl⟩;obtain⟨x2,g⟩:∃x,(128+c.toNat%64).toUInt8=x:=⟨_,rfl⟩;rw[f]at q1 hw;rw[g]at q2 hw;have Q1:=hid q1;have Q2:=hid q2;clear f g q1 q2;go_enter func124,ntmps124;go_wp2_with fail;have d:=hid hown;clear hown;refine(show Calls prog 150 #[v,.int .i32 (c.toNat:Int)] w fun e w'=>∃v',e=.returned v'∧w'.ownsRow 0 5 1 v' (n+2) (xs++ZP [x1,x2])∧
   Fr (fun k=>v.ownBlock=some k) w w'∧(∀k,v'.ownBlock=some k→v.ownBlock=some k∨w.heap.size≤k)∧v'≠.slice none 0 0 from ?_).mono ?_
  ·go_enter func150,ntmps150;go_wp2_with(at_builtin;refine wpList_append_g rfl _ _ 166 rfl 5 i0 (.int .u8 0) 1 1 underlying166 hi i l m rfl (by decide) _ _ _ rfl (d.out.alloc _) ⟨w.heap.size,0,none⟩ 2 2 [.int .u8 (x1.toNat:Int),.int .u8 (x2.toNat:Int)] rfl rfl ?d1 ?d2 ?d3 ?d4 ?_)
   case d1=>
    intro j u hj
    match j,hj with
    |0,hj=>simp at hj;subst hj;simp[Addr.add];exact Q1.out
    |1,hj=>simp at hj;subst hj;simp[Addr.add];exact Q2.out
   case d2=>intro u hu;simp at hu;rcases hu with rfl|rfl<;>rfl
   case d3=>unfold maxLen;omega
   case d4=>omega
   intro v' w2 a b;have HO:=hid a;have HA:=hid b;clear a b;go_wp2;go_ret;refine⟨v',rfl,HO.out,((Fr.refl (fun k=>v.ownBlock=some k) w).alloc _).trans' HA.out.fr,?_,fun e=>by have:=HA.out.nil.1 e;omega⟩;intro k hk;rcases HA.out.old k hk with h1|h1
   ·exact .inl h1
   ·simp at h1;exact .inr (by omega)
  ·rintro e w2 ⟨v',rfl,hr⟩;have HR:=hid hr;clear hr;go_wp2;go_ret;exact⟨v',rfl,by rw[hw.out];exact HR.out.1,HR.out.2⟩
theorem ZeY(T:TypeId)(b o:Nat)(cs:Array Value)(bs:List UInt8)(g:Option Nat)(c:UInt8)(w:World)(h:Zc3 5 T b o cs bs g w)(hl:Zfx T cs.size o)(hlen:bs.length≤140737488355326):
 Calls prog 95 #[.pointer (some ⟨b,o,none⟩),.int .i32 (c.toNat:Int)] w fun e w'=>(∃r,e=.returned r)∧
  ∃v',Zc3 5 T b o (ZaK cs b o v') (bs++ZaF c) v'.ownBlock w'∧Fr (fun k=>k=b∨some k=g) w w'∧(∀k,v'.ownBlock=some k→some k=g∨w.heap.size≤k):=by
 have HL:=hid hl;clear hl;go_enter func95,ntmps95;go_wp2_with(go_at_call 123;refine(copyCheck_any T b o cs bs g _ h HL.out).mono ?_);rintro e w1 ⟨rfl,h1,C⟩;obtain⟨hb,ho,hp,v,hv,i,hg,E,F⟩:=h1;have c1:w1.cell? ⟨b,o+1,none⟩=some v:=cell_at hb hv;obtain⟨va,vc,rfl⟩:=Zb i;have HB:=hid hb;have HO:=hid ho;have HV:=hid hv;have HG:=hid hg;have HN:=hid E;have HP:=hid hp;have HI:=hid F;have B:=hid i;clear hb ho hv hg E hp F i;go_wp2_with fail;refine(appendRune_any _ _ _ c _ B.out (by omega)).mono ?_;rintro e w2 ⟨v',rfl,j,d,a,J⟩;have hb:=HB.out;have f:=HG.out;have z:=HN.out;have n:w2.heap[b]? =some (.cells (cs.setIfInBounds o (.pointer (some ⟨b,o,none⟩))) T (0,0)):=
  d.heap hb (fun e=>z (by rw[←f,e]))
 have d1:w2.cell? ⟨b,o+1,none⟩=some (.slice va bs.length vc):=cell_at n HV.out;have f1:w2.frozen? ⟨b,o+1,none⟩=false:=ZF n _;have M:=lt_heap hb;have t:v'.ownBlock≠some b:=by
  intro e;rcases a b e with h|h
  ·exact z (by rw[←f,h])
  ·omega
 have u:∀k,v'.ownBlock=some k→some k=g∨w.heap.size≤k:=by
  intro k hk;have:=C.size;rcases a k hk with h|h
  ·exact .inl (by rw[←f,h])
  ·exact .inr (by omega)
 have l:w2.ownsRow 0 5 1 v' (bs++ZaF c).length (ZP (bs++ZaF c)):=by
  rw[Zaj,List.length_append];exact j
 have D:Fr (fun k=>k=b∨some k=g) w w2:=by
  refine(C.mono (fun _ _ h=>Or.inl h)).trans d (fun k _ h=>Or.inr ?_);rw[←f,h]
 have x:bs++ZaF c=[]→v'=.slice none 0 0:=fun h=>by
  rw[List.append_eq_nil_iff]at h;have:=h.2;unfold ZaF at this;split at this<;>simp at this
 obtain⟨ga,gc,K⟩:=Zb l;have A:=hid x;clear x;have G:=hid n;have y:=hid t;have q:=hid u;have s:=hid l;have H:=hid D;clear hb n f z t u l j D d a J;subst K;have L:(ZaF c).length≤2:=by unfold ZaF;split<;>simp
 have I:(bs++ZaF c).length=bs.length+(ZaF c).length:=List.length_append;obtain⟨m,hm⟩:∃m,(bs++ZaF c).length=m:=⟨_,rfl⟩;rw[hm]at A y q s⊢;have N:bs.length≤m:=by omega
 have O:m≤140737488355328:=by omega
 have HM:=hid hm;clear L I hm;go_wp2;go_ret2;have ho:=HO.out;refine⟨⟨_,rfl⟩,_,⟨Za G.out _ _,?_,.inr ?_,_,ZdU ho,?_,rfl,y.out,A.out⟩,?_,q.out⟩
 ·rw[ZY];simpa using ho
 ·unfold ZaK;rw[Zau (by omega)];exact ZdU (by simp at ho;omega)
 ·rw[HM.out];exact ownsRow_fr s.out ((Fr.refl (fun k=>k=b) w2).setCell (p:=⟨b,o+1,none⟩) (fun _=>rfl) _) (fun k hk e=>y.out (by rw[hk,e]))
 ·exact H.out.setCell (p:=⟨b,o+1,none⟩) (fun _=>Or.inl rfl) _
theorem bb_writeRune(b:Nat)(out:List UInt8)(c:UInt8)(g:Option Nat)(w:World)(h:Bb b out g w)(hlen:out.length≤140737488355326):
 Calls prog 95 #[.pointer (some ⟨b,0,none⟩),.int .i32 (c.toNat:Int)] w fun e w'=>(∃r,e=.returned r)∧
  ∃g',Bb b (out++ZaF c) g' w'∧Fr (fun k=>k=b∨some k=g) w w'∧(∀k,g'=some k→some k=g∨w.heap.size≤k):=by
 obtain⟨cs,hb,hs⟩:=h;refine(ZeY _ b 0 cs out g c w hb (Zfy hs) hlen).mono ?_;rintro e w' ⟨he,v',a,hf,hn⟩;exact⟨he,_,⟨_,a,by rw[ZY];exact hs⟩,hf,hn⟩
theorem ZlR(l:List UInt8)(w:World)(hl:l.length≤1000000):
 Calls prog 57 #[.string ⟨l.toArray⟩] w fun e w'=>e=.returned (.string ⟨(Zco l).toArray⟩)∧Fr nob w w':=by
 go_enter func57,ntmps57;go_wp2_with fail
 go_loopw [7] (fun i wr=>∃(k:Nat) (g:Option Nat),i=.int .i64 k∧k≤l.length∧Bb w.heap.size (Zco (l.take k)) g wr∧Fr nob w wr∧(∀j,g=some j→w.heap.size≤j)) (fun i _=>l.length-(intOf i).toNat)
 case atStart=>exact⟨0,none,rfl,Nat.zero_le _,Bb.new _,(Fr.refl _ _).alloc _,fun _ h=>(by cases h)⟩
 case round=>
  obtain⟨k,g,rfl,hk,hr,d,hg⟩:=hrel;have HR:=hid hr;have a:=hid d;have HG:=hid hg;clear hr d hg;by_cases q:k<l.length
  ·have s:(Zco (l.take k)).length≤2000000:=by have:=(Znq (l.take k)).1;have:=List.length_take_le k l;omega
   have HT:=hid (ZfD q);have t:=Zcf l[k];go_wp2_with fail;refine(bb_writeRune _ _ l[k] g _ HR.out (by omega)).mono ?_;rintro e w1 ⟨⟨r,rfl⟩,g1,h1,b,f⟩;have m:=hid h1;have n:=hid (ZcJ (g':=none) (Nat.le_refl _) a.out HG.out b);have p:=hid (ZdV a.out HG.out f);clear h1 b f;go_wp2;go_roundw
   case rel=>exact⟨k+1,g1,by go_num,by omega,by rw[HT.out];exact m.out,n.out,p.out⟩
   case measure=>simp[intOf];omega
  ·obtain rfl:k=l.length:=by omega
   have HT:=hid (List.take_of_length_le (l:=l) (Nat.le_refl _));go_wp2_with fail;refine(bb_string _ _ g _ HR.out).mono ?_;rw[HT.out];rintro e w2 ⟨rfl,c⟩;have o:=hid c;clear c;go_wp2;go_ret;exact⟨rfl,a.out.trans o.out (fun i hi h=>by have:=HG.out i h.symm;omega)⟩
theorem ZjS(w:World)(k:Nat)(s:ByteArray)(p:Nat):Fr (fun j=>j=k) w (w.iterAt k s p):=
 ⟨rfl,rfl,rfl,by rw[Lib.iterAt_size];exact Nat.le_refl _,fun i _ hi=>Lib.iterAt_other w k i s p hi⟩
theorem strings_HasPrefixP(l p:List UInt8)(w:World)(hs:l.length≤9223372036854775807)(hp:p.length≤9223372036854775807):
 Calls prog 87 #[.string ⟨l.toArray⟩,.string ⟨p.toArray⟩] w fun e w'=>e=.returned (.bool (p.isPrefixOf l))∧w=w':=by
 have HS:=hid hs;have HP:=hid hp;have hx:=Zm8 l 0 p.length;simp only[List.drop_zero,Nat.sub_zero]at hx;go_enter func87,ntmps87;go_wp2
 all_goals go_ret
 ·exact⟨ret_bool (ZdX (by assumption)),rfl⟩
 ·exact⟨ret_bool (ZdY (by assumption)),rfl⟩
theorem strings_IndexByte(l:List UInt8)(c:Int)(w:World):
 Calls prog 155 #[.string ⟨l.toArray⟩,.int .u8 c] w fun e w'=>e=.returned (.int .i64 (Lib.indexByte l c.toNat.toUInt8))∧w=w':=by
 go_enter func155,ntmps155;go_wp2;rw[run_callFunc_extern func187 (by kernel_rfl) (by kernel_rfl) (by kernel_rfl) (e:=Extern.BytealgIndexByte.indexByte) (by kernel_rfl),Lib.run_indexByteString];simp only[Result.andThen];rw[Oper.upon_value];go_wp2;go_ret;exact⟨rfl,rfl⟩
theorem bracket_any(l:List UInt8)(w:World)(hs:l.length≤4611686018427387904)(h1:1≤l.length):
 Calls prog 134 #[.string ⟨l.toArray⟩] w fun e w'=>e=.returned (.int .i64 (brE l 0))∧w=w':=by
 have i0:∀w,(Instr.index 235 (.agg #[.string ⟨#[94]⟩,.string ⟨#[93]⟩]) (.int .i64 0)).run prog w=.ok (.string ⟨#[94]⟩) w:=fun _=>by kernel_rfl
 have i1:∀w,(Instr.index 235 (.agg #[.string ⟨#[94]⟩,.string ⟨#[93]⟩]) (.int .i64 1)).run prog w=.ok (.string ⟨#[93]⟩) w:=fun _=>by kernel_rfl
 go_enter func134,ntmps134;go_wp2
 go_loop [3,8] (fun b i=>(b=.int .i64 1∧i=.int .i64 0)∨(b=.int .i64 (adv l 94 1)∧i=.int .i64 1)∨(b=.int .i64 (adv l 93 (adv l 94 1))∧i=.int .i64 2)) (fun _ i=>2-(intOf i).toNat)
 case atStart=>exact .inl ⟨rfl,rfl⟩
 case round=>
  rcases hrel with⟨rfl,rfl⟩|⟨rfl,rfl⟩|⟨rfl,rfl⟩
  ·go_wp2_with(go_at_call 87;refine(strings_HasPrefixP _ _ w (by simp;omega) (by simp)).mono ?_;rintro e w' ⟨rfl,rfl⟩)
   ·have e:=Zm9 (l:=l) (c:=94) (k:=1) (by rw[List.drop_one];assumption)
    go_round
    case rel=>exact .inr (.inl ⟨by rw[e];rfl,rfl⟩)
    case measure=>simp[intOf]
   ·have e:=Zna (l:=l) (c:=94) (k:=1) (by rw[List.drop_one];assumption)
    go_round
    case rel=>exact .inr (.inl ⟨by rw[e];rfl,rfl⟩)
    case measure=>simp[intOf]
  ·have ha:adv l 94 1≤l.length:=ZjP h1;go_wp2_with(go_at_call 87;refine(strings_HasPrefixP _ _ w (by simp;omega) (by simp)).mono ?_;rintro e w' ⟨rfl,rfl⟩)
   ·have e:=Zm9 (l:=l) (c:=93) (k:=adv l 94 1) (by assumption)
    go_round
    case rel=>exact .inr (.inr ⟨by rw[e];go_num,rfl⟩)
    case measure=>simp[intOf]
   ·have e:=Zna (l:=l) (c:=93) (k:=adv l 94 1) (by assumption)
    go_round
    case rel=>exact .inr (.inr ⟨by rw[e],rfl⟩)
    case measure=>simp[intOf]
  ·have ha:adv l 93 (adv l 94 1)≤l.length:=ZjP (ZjP h1);have hb:=Zb1 (l.drop (adv l 93 (adv l 94 1))) 93;have hn:=hid (ZeX (c:=93) ha);have hl:=ZoY (c:=93) ha;have hg:=Znb (l:=l) (c:=93) (k:=adv l 93 (adv l 94 1));simp only[List.length_drop]at hb;go_wp2_with(go_at_call 155;refine(strings_IndexByte _ _ w).mono ?_;rintro e w' ⟨rfl,rfl⟩)
   ·have a:Lib.indexByte (List.drop (adv l 93 (adv l 94 1)) l) 93<0:=by assumption
    go_ret;refine⟨ZdT ?_,rfl⟩;have hn:=hn.out;unfold brE;simp only[Nat.zero_add];split at hn<;>omega
   ·have a:0≤Lib.indexByte (List.drop (adv l 93 (adv l 94 1)) l) 93:=by assumption
    go_ret;refine⟨ZdT ?_,rfl⟩;have hn:=hn.out;unfold brE;simp only[Nat.zero_add];split at hn<;>omega
def Rdr(b:Nat)(s:List UInt8)(at_:Nat)(out:List UInt8)(g:Option Nat)(w:World):Prop:=
 ∃cs,Zc3 5 206 b 2 cs out g w∧cs.size=4∧cs[0]? =some (.string ⟨s.toArray⟩)∧cs[1]? =some (.int .i64 at_)
theorem ZfE{n:Nat}(h:n=4):Zfx 206 n 2:=by subst h;unfold Zfx;kernel_rfl
theorem Rdr.drew{b:Nat}{s:List UInt8}{at_:Nat}{out:List UInt8}{g:Option Nat}{w:World}(h:Rdr b s at_ out g w):Rdr b s at_ out g w.drew:=h
theorem Rdr.cell0{b:Nat}{s:List UInt8}{at_:Nat}{out:List UInt8}{g:Option Nat}{w:World}(h:Rdr b s at_ out g w):w.cell? ⟨b,0,none⟩=some (.string ⟨s.toArray⟩):=by
 obtain⟨cs,⟨hb,_⟩,_,h0,_⟩:=h;exact cell_at hb h0
theorem Rdr.cell1{b:Nat}{s:List UInt8}{at_:Nat}{out:List UInt8}{g:Option Nat}{w:World}(h:Rdr b s at_ out g w):w.cell? ⟨b,1,none⟩=some (.int .i64 at_):=by
 obtain⟨cs,⟨hb,_⟩,_,_,h1⟩:=h;exact cell_at hb h1
theorem Rdr.thawed{b:Nat}{s:List UInt8}{at_:Nat}{out:List UInt8}{g:Option Nat}{w:World}(h:Rdr b s at_ out g w)(j:Nat):w.frozen? ⟨b,j,none⟩=false:=by
 obtain⟨cs,⟨hb,_⟩,_⟩:=h;exact ZF hb j
theorem Rdr.moved{b:Nat}{s:List UInt8}{at_:Nat}{out:List UInt8}{g:Option Nat}{w:World}(h:Rdr b s at_ out g w)(k:Nat):Rdr b s k out g (w.setCell ⟨b,1,none⟩ (.int .i64 k)):=by
 obtain⟨cs,⟨hb,ho,hp,v,hv,c,hg,a,hn⟩,hs,h0,h1⟩:=h;refine⟨cs.setIfInBounds 1 (.int .i64 k),⟨Za hb 1 _,by simpa using ho,?_,v,?_,?_,hg,a,hn⟩,by simpa using hs,?_,ZdU (by omega)⟩
 ·rw[Zau (by omega)];exact hp
 ·rw[Zau (by omega)];exact hv
 ·exact ownsRow_fr c ((Fr.refl (fun k=>k=b) w).setCell (p:=⟨b,1,none⟩) (fun _=>rfl) _) (fun k hk e=>a (by rw[←hg,hk,e]))
 ·rw[Zau (by omega)];exact h0
theorem Zd0(b:Nat)(s:List UInt8)(at_:Nat)(out l:List UInt8)(g:Option Nat)(w:World)(h:Rdr b s at_ out g w)(hlen:out.length+l.length≤140737488355328):
 Calls prog 156 #[.pointer (some ⟨b,2,none⟩),.string ⟨l.toArray⟩] w fun e w'=>e=.returned (.tuple #[.int .i64 l.length,.nilIface])∧
  ∃g',Rdr b s at_ (out++l) g' w'∧Fr (fun k=>k=b∨some k=g) w w'∧(∀k,g'=some k→some k=g∨w.heap.size≤k):=by
 obtain⟨cs,hb,hs,h0,h1⟩:=h;refine(ZdW _ b 2 cs out g l w hb (ZfE hs) hlen).mono ?_;rintro e w' ⟨rfl,v',a,hf,hn⟩;exact⟨rfl,_,⟨_,a,by rw[ZY];exact hs,by rw[ZbG _ _ _ _ (by omega) (by omega)];exact h0,by rw[ZbG _ _ _ _ (by omega) (by omega)];exact h1⟩,hf,hn⟩
theorem rdr_writeByte(b:Nat)(s:List UInt8)(at_:Nat)(out:List UInt8)(c:Int)(g:Option Nat)(w:World)(hc:0≤c∧c≤255)(h:Rdr b s at_ out g w)(hlen:out.length≤140737488355327):
 Calls prog 154 #[.pointer (some ⟨b,2,none⟩),.int .u8 c] w fun e w'=>e=.returned .nilIface∧
  ∃g',Rdr b s at_ (out++[c.toNat.toUInt8]) g' w'∧Fr (fun k=>k=b∨some k=g) w w'∧(∀k,g'=some k→some k=g∨w.heap.size≤k):=by
 obtain⟨cs,hb,hs,h0,h1⟩:=h;refine(ZcK _ b 2 cs out g c w hc hb (ZfE hs) hlen).mono ?_;rintro e w' ⟨rfl,v',a,hf,hn⟩;exact⟨rfl,_,⟨_,a,by rw[ZY];exact hs,by rw[ZbG _ _ _ _ (by omega) (by omega)];exact h0,by rw[ZbG _ _ _ _ (by omega) (by omega)];exact h1⟩,hf,hn⟩
def ZgZ(b:Nat)(s:List UInt8)(at_:Nat)(out:List UInt8)(g:Option Nat)(w w':World):Prop:=
 ∃g',Rdr b s at_ out g' w'∧Fr (fun k=>k=b∨some k=g) w w'∧(∀k,g'=some k→some k=g∨w.heap.size≤k)
theorem copy_yes(b:Nat)(s:List UInt8)(at_ n:Nat)(out:List UInt8)(g:Option Nat)(w:World)(h:Rdr b s at_ out g w)(hs:s.length≤1000000)(ho:out.length≤1000000)(hn:at_+n≤s.length)
 (hi:Lib.indexByte ((s.drop at_).take n) 10<0):
 Calls prog 135 #[.pointer (some ⟨b,0,none⟩),.int .i64 n] w fun e w'=>e=.returned (.bool true)∧ZgZ b s (at_+n) (out++(s.drop at_).take n) g w w':=by
 have c0:=h.cell0;have c1:=h.cell1;have H:=hid h;clear h;have hw:IntKind.i64.wrap ((at_:Int)+n)=at_+n:=IntWalk.i64_in _ (by omega);have c:=Zaf (P:=prog) s (lo:=at_) (hi:=(at_:Int)+n) underlying9 (by omega) (by omega) (by omega);go_enter func135,ntmps135;go_wp2
 go_still_tail 14,(by kernel_rfl)
 change wpList _ _ _ _ _ w.drew;go_wp2_with(go_at_call 155;refine(strings_IndexByte _ _ _).mono ?_;rintro e w' ⟨rfl,rfl⟩);refine(Zd0 b s at_ out ((s.drop at_).take n) g _ H.out.drew (by have:=List.length_take_le n (s.drop at_);omega)).mono ?_;rintro e w1 ⟨rfl,g',h1,hf,a⟩;have d1:=h1.cell1;have t1:=h1.thawed 1;have H1:=hid h1;clear h1;go_wp2;go_ret;refine⟨rfl,g',H1.out.moved (at_+n),?_,a⟩;exact(((Fr.refl _ w).drew).trans' hf).setCell (p:=⟨b,1,none⟩) (fun _=>Or.inl rfl) _
theorem copy_no(b:Nat)(s:List UInt8)(at_ n:Nat)(out:List UInt8)(g:Option Nat)(w:World)(h:Rdr b s at_ out g w)(hs:s.length≤1000000)(hn:at_+n≤s.length)
 (i:Nat) (hi:Lib.indexByte ((s.drop at_).take n) 10=i):
 Calls prog 135 #[.pointer (some ⟨b,0,none⟩),.int .i64 n] w fun e w'=>e=.returned (.bool false)∧ZgZ b s (at_+i) out g w w':=by
 have c0:=h.cell0;have c1:=h.cell1;have t1:=h.thawed 1;have H:=hid h;clear h;have hw:IntKind.i64.wrap ((at_:Int)+n)=at_+n:=IntWalk.i64_in _ (by omega);have j:=Zaf (P:=prog) s (lo:=at_) (hi:=(at_:Int)+n) underlying9 (by omega) (by omega) (by omega);have a:=Zb1 ((s.drop at_).take n) 10;have c:((s.drop at_).take n).length≤n:=List.length_take_le _ _;have d:(i:Int)≤n:=by omega
 have f:(0:Int)≤i:=by omega
 clear a c;go_enter func135,ntmps135;go_wp2
 go_still_tail 14,(by kernel_rfl)
 change wpList _ _ _ _ _ w.drew;clear hw;go_wp2_with(go_at_call 155;refine(strings_IndexByte _ _ _).mono ?_;rintro e w' ⟨rfl,rfl⟩);go_ret;exact⟨rfl,g,(H.out.moved (at_+i)),((Fr.refl _ w).setCell (p:=⟨b,1,none⟩) (fun _=>Or.inl rfl) _).drew,fun k hk=>.inl hk.symm⟩
def esc(s:List UInt8)(d:UInt8)(rx:Bool)(at_:Nat)(out:List UInt8):Int×Nat×List UInt8:=
 match s[at_+1]? with
 |none=>(5,s.length,out)
 |some x=>if x=d then(0,at_+2,out++[x])else if x=10∧rx=true then(2,at_+1,out)else(0,at_+2,out++[92,x])
theorem escape_any(b:Nat)(s:List UInt8)(at_:Nat)(out:List UInt8)(d:UInt8)(rx:Bool)(g:Option Nat)(w:World)(h:Rdr b s at_ out g w)(hs:s.length≤1000000)(ho:out.length≤1000000)(hat:at_<s.length):
 Calls prog 133 #[.pointer (some ⟨b,0,none⟩),.int .u8 d.toNat,.bool rx] w fun e w'=>
  e=.returned (.int .i64 (esc s d rx at_ out).1)∧ZgZ b s (esc s d rx at_ out).2.1 (esc s d rx at_ out).2.2 g w w':=by
 have c0:=h.cell0;have c1:=h.cell1;have t1:=h.thawed 1;by_cases f:at_+1=s.length
 ·have hE:esc s d rx at_ out=(5,s.length,out):=by unfold esc;rw[List.getElem?_eq_none (by omega)]
  rw[hE];clear hE;have ht:((at_:Int)+1==s.length)=true:=by simp;omega
  have H:=hid h;clear h;have HE:=hid f;clear f;go_enter func133,ntmps133;have hw:IntKind.i64.wrap ((at_:Int)+1)=at_+1:=IntWalk.i64_in _ (by omega);go_wp2
  go_still_tail 10,(by kernel_rfl)
  change wpList _ _ _ _ _ w.drew;clear hw;go_wp2;go_ret;exact⟨rfl,g,H.out.moved s.length,((Fr.refl _ w).setCell (p:=⟨b,1,none⟩) (fun _=>Or.inl rfl) _).drew,fun k hk=>.inl hk.symm⟩
 ·have r:at_+1<s.length:=by omega
  have hx:s[at_+1]? =some s[at_+1]:=List.getElem?_eq_getElem r;have ht:((at_:Int)+1==s.length)=false:=by simp;omega
  have v:(at_:Int)+1<s.length:=by omega
  have hw:IntKind.i64.wrap ((at_:Int)+1)=at_+1:=IntWalk.i64_in _ (by omega);have m:=Zcf s[at_+1];have x:(0:Int)≤(at_:Int)+1:=by omega
  have y:((at_:Int)+1).toNat=at_+1:=by omega
  have n:=hid (ZaY s[at_+1]);by_cases hd:s[at_+1]=d
  ·have hE:esc s d rx at_ out=(0,at_+2,out++[s[at_+1]]):=by unfold esc;rw[hx];simp only[hd,if_true]
   rw[hE];clear hE hx;have u:=Zcy hd;have H:=hid h;clear h;have HD:=hid hd;clear hd;go_enter func133,ntmps133;go_wp2
   go_quiet (fail)
   go_wp2
   go_quiet (fail)
   go_wp2_with fail;refine(rdr_writeByte b s at_ out _ g _ m (by exact H.out) (by omega)).mono ?_;rintro e w1 ⟨rfl,g',h1,hf,j⟩;rw[n.out]at h1;have d1:=h1.cell1;have t2:=h1.thawed 1;have H1:=hid h1;clear h1;go_wp2;go_ret;refine⟨rfl,g',H1.out.moved (at_+2),?_,j⟩;exact(((Fr.refl _ w).drewN _).trans' hf).setCell (p:=⟨b,1,none⟩) (fun _=>Or.inl rfl) _
  ·have u:=Zn hd;by_cases hn:s[at_+1]=10∧rx=true
   ·obtain⟨a,rfl⟩:=hn;have hE:esc s d true at_ out=(2,at_+1,out):=by unfold esc;rw[hx];simp only[hd,a,if_false,and_self,if_true];rw[if_neg (by rw[←a];exact hd)]
    rw[hE];clear hE hx;have c:((s[at_+1].toNat:Int)==10)=true:=by rw[a];rfl
    have H:=hid h;clear h;have HD:=hid hd;clear hd;clear a;go_enter func133,ntmps133;go_wp2
    go_quiet (fail)
    go_wp2
    go_quiet (fail)
    go_wp2;go_ret;refine⟨rfl,g,H.out.moved (at_+1),?_,fun k hk=>.inl hk.symm⟩;exact((Fr.refl _ w).setCell (p:=⟨b,1,none⟩) (fun _=>Or.inl rfl) _).drewN _
   ·have hE:esc s d rx at_ out=(0,at_+2,out++[92,s[at_+1]]):=by unfold esc;rw[hx];simp only[hd,if_false,hn]
    rw[hE];clear hE hx;have c:((s[at_+1].toNat:Int)==10)=false∨(((s[at_+1].toNat:Int)==10)=true∧rx=false):=by
     by_cases a:s[at_+1]=10
     ·right;exact⟨by rw[a];rfl,rx_no a hn⟩
     ·left;exact Zn a
    have H:=hid h;clear h;have HD:=hid hd;clear hd;clear hn;rcases c with c|⟨c,rfl⟩
    all_goals
     go_enter func133,ntmps133;go_wp2
     go_quiet (fail)
     go_wp2
     go_quiet (fail)
     go_wp2_with fail;refine(rdr_writeByte b s at_ out 92 g _ (by omega) (by exact H.out) (by omega)).mono ?_;rintro e w0 ⟨rfl,g0,h0,o,q⟩;go_wp2_with fail;refine(rdr_writeByte b s at_ _ _ g0 _ m h0 (by simp;omega)).mono ?_;rintro e w1 ⟨rfl,g',h1,hf,j⟩;rw[n.out]at h1;have d1:=h1.cell1;have t2:=h1.thawed 1;have H1:=hid h1;clear h1;have H0:=hid h0;clear h0;go_wp2;go_ret;have t:=o.size;have l:=H1.out;simp only[List.append_assoc,List.cons_append,List.nil_append]at l;refine⟨rfl,g',Rdr.moved l (at_+2),?_,fun k hk=> ?_⟩
     ·exact((((Fr.refl _ w).drewN _).trans' o).trans hf (fun i hi h=>h.imp_right fun h=>by rcases q i h.symm with h|h;exact h;simp[World.drewN]at h;omega)).setCell (p:=⟨b,1,none⟩) (fun _=>Or.inl rfl) _
     ·rcases j k hk with h|h
      ·exact q k h.symm
      ·exact .inr (by simp[World.drewN]at t;omega)
def bt(l:List UInt8)(d:UInt8)(rx:Bool):Nat→Nat→List UInt8→List UInt8×Nat×Int
 |0,_,_=>([],0,0)
 |n+1,k,out=>
  match l[k]? with
  |none=>([],l.length,5)
  |some c=>
   if c=d then(out,k+1,0)
   else if c=92 then(if(esc l d rx k out).1=0 then bt l d rx n (esc l d rx k out).2.1 (esc l d rx k out).2.2 else([],(esc l d rx k out).2.1,(esc l d rx k out).1))
   else
    let m:=if c=91∧rx=true then brE l k-k else 1
    let i:=Lib.indexByte ((l.drop k).take m) 10
    if i<0 then bt l d rx n (k+m) (out++(l.drop k).take m)else([],k+i.toNat,2)
theorem over_any(l:List UInt8)(at_:Int)(w:World)(hs:l.length≤1000000):
 Calls prog 132 #[.string ⟨l.toArray⟩,.int .i64 at_] w fun e w'=>e=.returned (.bool (decide (at_<0)||decide ((l.length:Int)<at_)))∧w=w':=by
 go_enter func132,ntmps132;go_wp2
 all_goals go_ret
 all_goals simp_all
theorem Znu(w:World)(l:List UInt8)(k:Nat):Rdr w.heap.size l k [] none (w.alloc (.cells #[.string ⟨l.toArray⟩,.int .i64 k,.pointer none,.slice none 0 0] 206)):=
 ⟨_,⟨heap_alloc_new w _,by simp,.inl rfl,.slice none 0 0,rfl,World.ownsRow_nil _ _ _ _,rfl,by simp,fun _=>rfl⟩,rfl,rfl,rfl⟩
theorem rdr_string(b:Nat)(s:List UInt8)(at_:Nat)(out:List UInt8)(g:Option Nat)(w:World)(h:Rdr b s at_ out g w):
 Calls prog 96 #[.pointer (some ⟨b,2,none⟩)] w fun e w'=>e=.returned (.string ⟨out.toArray⟩)∧w'.cell? ⟨b,1,none⟩=some (.int .i64 at_)∧Fr (fun k=>some k=g) w w':=by
 obtain⟨cs,hb,hs,h0,h1⟩:=h;refine(Zev _ b 2 cs out g w hb).mono ?_;rintro e w' ⟨rfl,hf⟩;obtain⟨a,_,_,v,_,_,_,c,_⟩:=hb;exact⟨rfl,cell_at (hf.heap a (fun e=>c e.symm)) h1,hf⟩
theorem ZoZ{l:List UInt8}{d:UInt8}{rx:Bool}{k:Nat}{out:List UInt8}(h:(esc l d rx k out).1=0):
 (esc l d rx k out).2.1=k+2∧k+2≤l.length∧(esc l d rx k out).2.2.length≤out.length+2:=by
 revert h;unfold esc
 cases hx:l[k+1]? with
 |none=>simp
 |some x=>
  have a:=(List.getElem?_eq_some_iff.1 hx).1;simp only;split
  ·intro _;refine⟨rfl,by omega,by simp⟩
  ·split
   ·intro h;simp at h
   ·intro _;refine⟨rfl,by omega,by simp⟩
def Zqg(l:List UInt8)(d:UInt8)(rx:Bool)(F:List UInt8×Nat×Int)(w:World)(n:Nat)(wr:World):Prop:=
 ∃(k:Nat) (out:List UInt8) (g:Option Nat),l.length<n+k∧k≤l.length∧out.length≤k∧Rdr w.heap.size l k out g wr∧Fr nob w wr∧(∀j,g=some j→w.heap.size≤j)∧bt l d rx n k out=F
theorem Znv{l:List UInt8}{d:UInt8}{rx:Bool}{n k:Nat}{out:List UInt8}(h:l.length≤k):bt l d rx (n+1) k out=([],l.length,5):=by
 rw[bt,List.getElem?_eq_none h]
theorem Zo0{l:List UInt8}{d:UInt8}{rx:Bool}{n k:Nat}{out:List UInt8}(h:k<l.length)(e:l[k]=d):bt l d rx (n+1) k out=(out,k+1,0):=by
 rw[bt,List.getElem?_eq_getElem h];simp[e]
theorem Zo1{l:List UInt8}{d:UInt8}{rx:Bool}{n k:Nat}{out:List UInt8}(h:k<l.length)(e:l[k]≠d)(e2:l[k]=92):
 bt l d rx (n+1) k out=(if(esc l d rx k out).1=0 then bt l d rx n (esc l d rx k out).2.1 (esc l d rx k out).2.2 else([],(esc l d rx k out).2.1,(esc l d rx k out).1)):=by
 rw[bt,List.getElem?_eq_getElem h];simp only;rw[if_neg e,if_pos e2]
theorem ZjT{l:List UInt8}{d:UInt8}{rx:Bool}{n k m:Nat}{out:List UInt8}(h:k<l.length)(e:l[k]≠d)(e2:l[k]≠92)(hm:(if l[k]=91∧rx=true then brE l k-k else 1)=m):
 bt l d rx (n+1) k out=(if Lib.indexByte ((l.drop k).take m) 10<0 then bt l d rx n (k+m) (out++(l.drop k).take m)else([],k+(Lib.indexByte ((l.drop k).take m) 10).toNat,2)):=by
 rw[bt,List.getElem?_eq_getElem h];simp only;rw[if_neg e,if_neg e2,hm]
theorem Zg0(l:List UInt8)(at_:Nat)(d:UInt8)(rx:Bool)(w:World)(hs:l.length≤100000)(hat:at_≤l.length):
 Calls prog 109 #[.string ⟨l.toArray⟩,.int .i64 at_,.int .u8 d.toNat,.bool rx] w fun e w'=>
  e=.returned (.tuple #[.string ⟨(bt l d rx (l.length+1) at_ []).1.toArray⟩,.int .i64 (bt l d rx (l.length+1) at_ []).2.1,.int .i64 (bt l d rx (l.length+1) at_ []).2.2])∧Fr nob w w':=by
 obtain⟨F,hF⟩:∃F,bt l d rx (l.length+1) at_ []=F:=⟨_,rfl⟩;rw[hF];have HF:=hid hF;clear hF;have ho:(decide ((at_:Int)<0)||decide ((l.length:Int)<at_))=false:=by simp;omega
 have HO:=hid ho;clear ho;go_enter func109,ntmps109;go_wp2_with(go_at_call 132;refine(over_any _ _ w (by omega)).mono ?_;rw[HO.out];rintro e w' ⟨rfl,rfl⟩)
 go_loopg [12] (l.length+1) (fun n _ wr=>Zqg l d rx F w n wr)
 case atStart=>exact⟨at_,[],none,by omega,hat,Nat.zero_le _,Znu _ _ _,(Fr.refl _ _).alloc _,fun _ h=>(by cases h),HF.out⟩
 case round=>
  obtain⟨k,out,g,hn,hk,E,hr,A,hg,hb⟩:=hrel;obtain⟨m,rfl⟩:∃m,gk=m+1:=⟨gk-1,by omega⟩;have c0:=hr.cell0;have c1:=hr.cell1;have HR:=hid hr;clear hr;have f:=hid A;clear A;have HG:=hid hg;clear hg;by_cases u:k<l.length
  ·by_cases hd:l[k]=d
   ·rw[Zo0 u hd]at hb;subst hb;have t1:=Zcy hd;have hw:IntKind.i64.wrap ((k:Int)+1)=k+1:=IntWalk.i64_in _ (by omega);clear hd;go_wp2_with fail
    go_region_with (go_at_call 96;refine(rdr_string _ l k out g _ (by exact HR.out)).mono ?_;rintro e w1 ⟨rfl,d1,a⟩;have r:=hid a;clear a)
    all_goals
     go_wp2;go_ret3;exact⟨rfl,f.out.drew.trans r.out (fun i hi h=>by have:=HG.out i h.symm;omega)⟩
   ·have t1:=Zn hd;by_cases p:l[k]=92
    ·rw[Zo1 u hd p]at hb;have t2:((l[k].toNat:Int)==92)=true:=by rw[p];rfl
     have HB:=hid hb;clear hb hd p;go_wp2_with(go_at_call 133;refine(escape_any _ l k out d rx g _ HR.out (by omega) (by omega) u).mono ?_;rintro e w1 ⟨rfl,g1,b,a,c⟩)
     ·have D:((esc l d rx k out).1 !=0)=true:=by assumption
      have hb:=HB.out;rw[if_neg (by simpa using D)]at hb;subst hb;have d1:=b.cell1;have r:=hid a;clear a;have z:=hid b;clear b;have y:=hid c;clear c
      go_quiet (fail)
      go_wp2;go_ret3;exact⟨rfl,(f.out.trans r.out (fun i hi h=>by rcases h with h|h;omega;have:=HG.out i h.symm;omega)).drewN _⟩
     ·have x:(esc l d rx k out).1=0:=by have:((esc l d rx k out).1 !=0)=false:=by assumption
                                        simpa using this
      obtain⟨e1,e2,e3⟩:=ZoZ x;have hb:=HB.out;rw[if_pos x]at hb;have B:=f.out.size;clear x;go_roundg m
      case measure=>omega
      case rel=>exact⟨_,_,g1,by omega,by omega,by omega,b,f.out.trans a (fun i hi h=>by rcases h with h|h;omega;have:=HG.out i h.symm;omega),fun j hj=>by rcases c j hj with h|h;exact HG.out j h.symm;omega,hb⟩
    ·have t2:((l[k].toNat:Int)==92)=false:=Zn p;by_cases o:l[k]=91∧rx=true
     ·obtain⟨o,rfl⟩:=o;have t3:((l[k].toNat:Int)==91)=true:=by rw[o];rfl
      have hm:(if l[k]=91∧true=true then brE l k-k else 1)=brE (l.drop k) 0:=by rw[if_pos ⟨o,rfl⟩,←ZdD (by omega)];omega
      rw[ZjT u hd p hm]at hb;have t:k+brE (l.drop k) 0≤l.length:=by rw[ZdD (by omega)];unfold brE;omega
      have C:1≤brE (l.drop k) 0:=by unfold brE;simp only[List.length_drop];omega
      have HB:=hid hb;clear hb hm hd p o;obtain⟨q,hq⟩:∃q,brE (l.drop k) 0=q:=⟨_,rfl⟩;have HQ:=hid hq;clear hq;rw[HQ.out]at t C HB;by_cases hi:Lib.indexByte ((l.drop k).take q) 10<0
      ·have hb:=HB.out;rw[if_pos hi]at hb;have HI:=hid hi;clear hi;go_wp2_with(go_at_call 134;refine(bracket_any (l.drop k) _ (by simp;omega) (by simp;omega)).mono ?_;rw[HQ.out];rintro e w' ⟨rfl,rfl⟩);go_wp2_with(go_at_call 135;refine(copy_yes _ l k q out g _ (by exact HR.out) (by omega) (by omega) t HI.out).mono ?_;rintro e w1 ⟨rfl,g1,b,a,c⟩);have B:=f.out.size;have hl:=List.length_take_le q (l.drop k);go_roundg m
       case measure=>omega
       case rel=>exact⟨_,_,g1,by omega,by omega,by rw[List.length_append];omega,b,f.out.trans a (fun i hi h=>by rcases h with h|h;omega;have:=HG.out i h.symm;omega),fun j hj=>by rcases c j hj with h|h;exact HG.out j h.symm;omega,hb⟩
      ·have hb:=HB.out;rw[if_neg hi]at hb;obtain⟨i,s⟩:∃i:Nat,Lib.indexByte ((l.drop k).take q) 10=i:=⟨_,(Int.toNat_of_nonneg (by omega)).symm⟩;rw[s,Int.toNat_natCast]at hb;subst hb;have HI:=hid s;clear hi s;go_wp2_with(go_at_call 134;refine(bracket_any (l.drop k) _ (by simp;omega) (by simp;omega)).mono ?_;rw[HQ.out];rintro e w' ⟨rfl,rfl⟩);go_wp2_with(go_at_call 135;refine(copy_no _ l k q out g _ (by exact HR.out) (by omega) t i HI.out).mono ?_;rintro e w1 ⟨rfl,g1,b,a,c⟩);have d1:=b.cell1;have r:=hid a;clear a;have z:=hid b;clear b;have y:=hid c;clear c
       go_quiet (fail)
       go_wp2;go_ret3;exact⟨rfl,(f.out.trans r.out (fun i hi h=>by rcases h with h|h;omega;have:=HG.out i h.symm;omega)).drewN _⟩
     ·rw[ZjT u hd p (if_neg o)]at hb;have t3:((l[k].toNat:Int)==91)=false∨(((l[k].toNat:Int)==91)=true∧rx=false):=by
       by_cases v:l[k]=91
       ·right;exact⟨by rw[v];rfl,rx_no v o⟩
       ·left;exact Zn v
      have HB:=hid hb;clear hb hd p o;obtain⟨q,hq⟩:∃q:Nat,q=1:=⟨1,rfl⟩;have t:k+1≤l.length:=by omega
      rcases t3 with t3|⟨t3,rfl⟩
      all_goals
       by_cases hi:Lib.indexByte ((l.drop k).take 1) 10<0
       ·have hb:=HB.out;rw[if_pos hi]at hb;have HI:=hid hi;clear hi;go_wp2_with(go_at_call 135;refine(copy_yes _ l k 1 out g _ (by exact HR.out) (by omega) (by omega) t HI.out).mono ?_;rintro e w1 ⟨rfl,g1,b,a,c⟩);have B:=f.out.size;have hl:=List.length_take_le 1 (l.drop k);go_roundg m
        case measure=>omega
        case rel=>exact⟨_,_,g1,by omega,by omega,by rw[List.length_append];omega,b,f.out.trans a (fun i hi h=>by rcases h with h|h;omega;have:=HG.out i h.symm;omega),fun j hj=>by rcases c j hj with h|h;exact HG.out j h.symm;omega,hb⟩
       ·have hb:=HB.out;rw[if_neg hi]at hb;obtain⟨i,s⟩:∃i:Nat,Lib.indexByte ((l.drop k).take 1) 10=i:=⟨_,(Int.toNat_of_nonneg (by omega)).symm⟩;rw[s,Int.toNat_natCast]at hb;subst hb;have HI:=hid s;clear hi s;go_wp2_with(go_at_call 135;refine(copy_no _ l k 1 out g _ (by exact HR.out) (by omega) t i HI.out).mono ?_;rintro e w1 ⟨rfl,g1,b,a,c⟩);have d1:=b.cell1;have r:=hid a;clear a;have z:=hid b;clear b;have y:=hid c;clear c
        go_quiet (fail)
        go_wp2;go_ret3;exact⟨rfl,(f.out.trans r.out (fun i hi h=>by rcases h with h|h;omega;have:=HG.out i h.symm;omega)).drewN _⟩
  ·rw[Znv (by omega)]at hb;subst hb;go_wp2;go_ret3;exact⟨rfl,f.out⟩
def nm(at_:Nat):List UInt8→Nat→Nat→Nat×Nat×Int
 |[],n,c=>if c=0 then(0,at_,2)else(n,at_+c,0)
 |x::r,n,c=>if 48≤x.toNat∧x.toNat≤57 then(if c=9 then(0,at_,3)else nm at_ r (n*10+(x.toNat-48)) (c+1))else if c=0 then(0,at_,2)else(n,at_+c,0)
theorem Zo2{at_:Nat}{l:List UInt8}{k n c:Nat}(h:l.length≤k):nm at_ (l.drop k) n c=if c=0 then(0,at_,2)else(n,at_+c,0):=by
 rw[List.drop_eq_nil_of_le h];rfl
theorem Zqi{at_:Nat}{l:List UInt8}{k n c:Nat}(h:k<l.length)(hd:¬(48≤l[k].toNat∧l[k].toNat≤57)):nm at_ (l.drop k) n c=if c=0 then(0,at_,2)else(n,at_+c,0):=by
 rw[List.drop_eq_getElem_cons h,nm,if_neg hd]
theorem Znw{at_:Nat}{l:List UInt8}{k n:Nat}(h:k<l.length)(hd:48≤l[k].toNat∧l[k].toNat≤57):nm at_ (l.drop k) n 9=(0,at_,3):=by
 rw[List.drop_eq_getElem_cons h,nm,if_pos hd,if_pos rfl]
theorem Znx{at_:Nat}{l:List UInt8}{k n c:Nat}(h:k<l.length)(hd:48≤l[k].toNat∧l[k].toNat≤57)(hc:c≠9):nm at_ (l.drop k) n c=nm at_ (l.drop (k+1)) (n*10+(l[k].toNat-48)) (c+1):=by
 rw[List.drop_eq_getElem_cons h,nm,if_pos hd,if_neg hc]
theorem Zb2{S:Nat→Prop}{a w:World}(h:Fr S a w)(s:ByteArray)(p:Nat):Fr S a (w.iter s p):=h.alloc _
def ZiU(c:Nat):Nat:=10^c
theorem ZiV(c:Nat):ZiU (c+1)=ZiU c*10:=by unfold ZiU;rw[Nat.pow_succ]
theorem ZlS{c:Nat}(h:c≤9):ZiU c≤1000000000:=by unfold ZiU;exact Nat.le_trans (Nat.pow_le_pow_right (by omega) h) (by omega)
def Zqj(l:List UInt8)(at_:Nat)(F:Nat×Nat×Int)(w:World)(n c:Value)(wr:World):Prop:=
 ∃(m k:Nat),n=.int .i64 m∧c=.int .i64 k∧wr=w.iter ⟨(l.drop at_).toArray⟩ k∧k≤9∧at_+k≤l.length∧m<ZiU k∧nm at_ (l.drop (at_+k)) m k=F
theorem Zc4(l:List UInt8)(at_:Nat)(w:World)(hs:l.length≤100000)(hat:at_≤l.length):
 Calls prog 131 #[.string ⟨l.toArray⟩,.int .i64 at_] w fun e w'=>
  e=.returned (.tuple #[.int .i64 (nm at_ (l.drop at_) 0 0).1,.int .i64 (nm at_ (l.drop at_) 0 0).2.1,.int .i64 (nm at_ (l.drop at_) 0 0).2.2])∧Fr nob w w':=by
 obtain⟨F,hF⟩:∃F,nm at_ (l.drop at_) 0 0=F:=⟨_,rfl⟩;rw[hF];have HF:=hid hF;clear hF;have ho:(decide ((at_:Int)<0)||decide ((l.length:Int)<at_))=false:=by simp;omega
 have HO:=hid ho;clear ho;go_enter func131,ntmps131;go_wp2_with(go_at_call 132;refine(over_any _ _ w (by omega)).mono ?_;rw[HO.out];rintro e w' ⟨rfl,rfl⟩)
 go_loopw [7,8] (fun n c wr=>Zqj l at_ F w n c wr) (fun _ c _=>10-(intOf c).toNat)
 case atStart=>exact⟨0,0,rfl,rfl,rfl,by omega,by omega,by decide,HF.out⟩
 case round=>
  obtain⟨m,k,rfl,rfl,rfl,hk,t,hm,hb⟩:=hrel;by_cases f:at_+k<l.length
  ·have d:k<(l.drop at_).length:=by rw[List.length_drop];omega
   have b:k<(ByteArray.mk (l.drop at_).toArray).size:=by rw[Zbp];exact d
   have a:(ByteArray.mk (l.drop at_).toArray)[k]'b=l[at_+k]:=by rw[Zp6];exact List.getElem_drop
   by_cases hd:48≤l[at_+k].toNat∧l[at_+k].toNat≤57
   ·obtain⟨h,i⟩:=hd;have j:∀ty,(Instr.next (.pointer (some ⟨w.heap.size,0,none⟩)) true ty).run prog (w.iter ⟨(l.drop at_).toArray⟩ k)=.ok (.tuple #[.bool true,.int .i64 k,.int .i32 l[at_+k].toNat]) (w.iter ⟨(l.drop at_).toArray⟩ (k+1)):=fun ty=>by
     rw[run_next_ascii w _ k ty b (by rw[a];omega),a]
    by_cases hc:k=9
    ·subst hc;rw[Znw f ⟨h,i⟩]at hb;subst hb;clear d b a hm;go_wp2;go_ret3;exact⟨rfl,Zb2 (Fr.refl _ _) _ _⟩
    ·have g:((k:Int)==9)=false:=by simp;omega
     rw[Znx f ⟨h,i⟩ hc]at hb;have s:k≤8:=by omega
     have hp:=ZlS hk;have o:=ZiV k;have HB:=hid hb;have HP:=hid o;clear hb d b a hc o;have u:m<1000000000:=by omega
     go_wp2;go_roundw
     case rel=>
      refine⟨m*10+(l[at_+k].toNat-48),k+1,?_,by go_num,rfl,by omega,by omega,by rw[HP.out];omega,HB.out⟩
      go_num
     case measure=>simp[intOf];omega
   ·rw[Zqi f hd]at hb;obtain⟨r,p,hr,j⟩:∃(r:Int) (p:Nat),(r<48∨57<r)∧∀ty,(Instr.next (.pointer (some ⟨w.heap.size,0,none⟩)) true ty).run prog (w.iter ⟨(l.drop at_).toArray⟩ k)=.ok (.tuple #[.bool true,.int .i64 k,.int .i32 r]) (w.iter ⟨(l.drop at_).toArray⟩ p):=by
     by_cases ha:l[at_+k].toNat<128
     ·exact⟨l[at_+k].toNat,k+1,by omega,fun ty=>by rw[run_next_ascii w _ k ty b (by rw[a];exact ha),a]⟩
     ·have hh:=decode_high (ByteArray.mk (l.drop at_).toArray) k b (by rw[a];omega);exact⟨_,_,by omega,fun ty=>run_next_any w _ k ty b⟩
    clear d b a hd hm;by_cases hc:k=0
    ·subst hc;rw[if_pos rfl]at hb;subst hb;rcases hr with hr|hr
     ·go_wp2;go_ret3;exact⟨rfl,Zb2 (Fr.refl _ _) _ _⟩
     ·have q:48≤r:=by omega
      go_wp2;go_ret3;exact⟨rfl,Zb2 (Fr.refl _ _) _ _⟩
    ·rw[if_neg hc]at hb;subst hb;have g:((k:Int)==0)=false:=by simp;omega
     clear hc;rcases hr with hr|hr
     ·go_wp2;go_ret3;exact⟨by simp,Zb2 (Fr.refl _ _) _ _⟩
     ·have q:48≤r:=by omega
      go_wp2;go_ret3;exact⟨by simp,Zb2 (Fr.refl _ _) _ _⟩
  ·rw[Zo2 (by omega)]at hb;have j:∀ty,(Instr.next (.pointer (some ⟨w.heap.size,0,none⟩)) true ty).run prog (w.iter ⟨(l.drop at_).toArray⟩ k)=.ok (.tuple #[.bool false]) (w.iter ⟨(l.drop at_).toArray⟩ k):=fun ty=>run_next_end w _ k ty (by rw[Zbp,List.length_drop];omega);clear hm;by_cases hc:k=0
   ·subst hc;rw[if_pos rfl]at hb;subst hb;go_wp2;go_ret3;exact⟨rfl,Zb2 (Fr.refl _ _) _ _⟩
   ·rw[if_neg hc]at hb;subst hb;have g:((k:Int)==0)=false:=by simp;omega
    clear hc;go_wp2;go_ret3;exact⟨by simp,Zb2 (Fr.refl _ _) _ _⟩
def ln(l:List UInt8):Nat→Nat→List UInt8→List UInt8×Nat×Int
 |0,_,_=>([],0,0)
 |n+1,k,out=>
  match l[k]? with
  |none=>(out++[10],min (k+1) l.length,0)
  |some c=>
   if c=10 then(out++[10],min (k+1) l.length,0)
   else if c=92 then(match l[k+1]? with|none=>([],k,11)|some x=>ln l n (k+2) (out++[x]))
   else ln l n (k+1) (out++[c])
def ZxX:Value→Nat
 | .string b=>b.size
 |_=>0
def tl(l cs:List UInt8):List UInt8:=l.dropWhile (cs.contains ·)
def tr(l cs:List UInt8):List UInt8:=(l.reverse.dropWhile (cs.contains ·)).reverse
theorem Zo5{m cs:List UInt8}(h:¬0<m.length):tl m cs=m:=by
 cases m with
 |nil=>rfl
 |cons _ _=>simp at h
theorem Zo6{m cs:List UInt8}(h:0<m.length)(e:cs.contains m[0]=true):tl m cs=tl (m.drop 1) cs:=by
 cases m with
 |nil=>simp at h
 |cons x r=>simp only[List.getElem_cons_zero]at e;simp only[tl,List.dropWhile_cons,e,if_true,List.drop_succ_cons,List.drop_zero]
theorem Zqm{m cs:List UInt8}(h:0<m.length)(e:cs.contains m[0]=false):tl m cs=m:=by
 cases m with
 |nil=>simp at h
 |cons x r=>simp only[List.getElem_cons_zero]at e;simp only[tl,List.dropWhile_cons,e];rfl
theorem Zbq(l cs:List UInt8)(b:Nat)(w:World)(hl:l.length≤1000000)(hc:∀x:UInt8,w.cell? ⟨b,x.toNat,none⟩=some (.bool (cs.contains x))):
 Calls prog 175 #[.string ⟨l.toArray⟩,.pointer (some ⟨b,0,none⟩)] w fun e w'=>e=.returned (.string ⟨(tl l cs).toArray⟩)∧w=w':=by
 obtain⟨F,hF⟩:∃F,tl l cs=F:=⟨_,rfl⟩;rw[hF];have HF:=hid hF;clear hF;have HC:=hid hc;clear hc;go_enter func175,ntmps175;go_wp2
 go_loop [0] (fun s=>∃m:List UInt8,m.length≤1000000∧s=.string ⟨m.toArray⟩∧tl m cs=F) (fun s=>ZxX s)
 case atStart=>exact⟨l,hl,rfl,HF.out⟩
 case round=>
  obtain⟨m,hm,rfl,hF⟩:=hrel;by_cases h:0<m.length
  ·obtain⟨x,hx⟩:∃x,m[0]=x:=⟨_,rfl⟩;cases c:cs.contains x with
   |true=>
    rw[Zo6 h (by rw[hx];exact c)]at hF;have HX:=hid hF;clear hF;have a:=HC.out x;rw[c]at a;go_wp2_with(go_at_call 184;refine(Tryz.asciiSet_contains _ x _ _ a).mono ?_;rintro e w' ⟨rfl,rfl⟩)
    go_round
    case measure=>simp[ZxX,Zbp];omega
    case rel=>exact⟨m.drop 1,by simp;omega,by rw[List.drop_one],HX.out⟩
   |false=>
    rw[Zqm h (by rw[hx];exact c)]at hF;subst hF;have a:=HC.out x;rw[c]at a;go_wp2_with(go_at_call 184;refine(Tryz.asciiSet_contains _ x _ _ a).mono ?_;rintro e w' ⟨rfl,rfl⟩);go_ret;exact⟨rfl,rfl⟩
  ·rw[Zo5 h]at hF;subst hF;go_wp2;go_ret;exact⟨rfl,rfl⟩
theorem Zpa:(zeroValue 257).run prog=fun w=>.ok (.agg (Array.replicate 256 (.bool false))) w:=by
 funext w;exact(zero_of_info (P:=prog) (n:=256) (by kernel_rfl)).1 w
def ZbJ(cs:List UInt8)(w:World):World:=(w.alloc (.cells (Lib.setCells cs) 257)).alloc (.cells (Lib.setCells cs) 257)
theorem Zc5(cs:List UInt8)(w:World):Fr nob w (ZbJ cs w):=((Fr.refl _ _).alloc _).alloc _
theorem Zc6(cs:List UInt8)(w:World)(x:UInt8):(ZbJ cs w).cell? ⟨w.heap.size+1,x.toNat,none⟩=some (.bool (cs.contains x)):=by
 unfold ZbJ;rw[World.cell?_alloc_at _ _ _ _ (by simp),Lib.setCells_at]
theorem ZcM(cs:List UInt8)(w:World):(storeCells ⟨w.heap.size+1,0,none⟩ (Lib.setCells cs).toList 0).run prog ((w.alloc (.cells (Lib.setCells cs) 257)).alloc (.cells (Array.replicate 256 (.bool false)) 257))=.ok () (ZbJ cs w):=by
 have:=run_storeCells_new (P:=prog) (w.alloc (.cells (Lib.setCells cs) 257)) 257 (Array.replicate 256 (.bool false)) (Lib.setCells cs) (by rw[Lib.setCells_size];kernel_rfl) (by rw[Lib.setCells_size,Array.size_replicate]) (Lib.setCells_one _);unfold ZbJ;simpa using this
theorem ZfG(l:List UInt8)(c d:UInt8)(cs:List UInt8)(w:World)(hl:l.length≤1000000)(hcs:cs.length≤1000)(ha:∀(j:Nat) b,(c::d::cs)[j]? =some b→b.toNat<128):
 Calls prog 153 #[.string ⟨l.toArray⟩,.string ⟨(c::d::cs).toArray⟩] w fun e w'=>e=.returned (.string ⟨(tl l (c::d::cs)).toArray⟩)∧Fr nob w w':=by
 have hM:=Tryz.strings_makeASCIISet (fun w=>by rw[Zpa]) ⟨(c::d::cs).toArray⟩ w (by rw[Zbp];simp;omega) (by simpa using ha);clear ha;obtain⟨CS,a⟩:∃CS,c::d::cs=CS:=⟨_,rfl⟩;have hn:∃n,CS.length=n+2:=⟨cs.length,by rw[←a];rfl⟩;rw[a]at hM⊢;clear a;have hS:=ZcM CS w;obtain⟨n,hn⟩:=hn;have g:((CS.length:Int)==1)=false:=beq_eq_false_iff_ne.2 (by omega);have f:CS.isEmpty=false:=by cases CS with|nil=>simp at hn|cons _ _=>rfl
 go_enter func153,ntmps153;cases l with
 |nil=>
  go_wp2;go_ret;exact⟨rfl,Fr.refl _ _⟩
 |cons x r=>
  obtain⟨L,hL⟩:∃L,x::r=L:=⟨_,rfl⟩;have h:L.isEmpty=false:=by rw[←hL];rfl
  rw[hL]at hl⊢;clear hL;have hT:=Zbq L CS (w.heap.size+1) (ZbJ CS w) hl (Zc6 CS w);have i:=Lib.setCells_size CS;go_wp2_with(go_at_call 174;refine hM.mono ?_;rintro e w' ⟨rfl,hw⟩;rw[hw])
  first
   |(rw[Zpa];simp only[Result.andThen])
   |(rw[show Tryz.zeroCells257=Array.replicate 256 (.bool false)from by kernel_rfl,hS];simp only[Result.andThen])
  go_wp2_with(go_at_call 175;refine hT.mono ?_;rintro e w' ⟨rfl,rfl⟩);go_ret;exact⟨rfl,Zc5 _ _⟩
end Go.Proofs.YtgllcniibbaoaaaGreatDoor
