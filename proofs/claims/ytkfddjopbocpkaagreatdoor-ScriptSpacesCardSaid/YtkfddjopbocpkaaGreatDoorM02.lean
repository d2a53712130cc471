/- Lemmas of this claim. -/
import Derived.Test.YtkfddjopbocpkaaGreatDoorM00
import Derived.Lib.Bytealg
import Derived.Laws.RangeAny
import Derived.Deep.RegionWith
import Derived.Test.YtkfddjopbocpkaaGreatDoorM01
set_option linter.unusedVariables false
set_option linter.unusedSimpArgs false
set_option maxRecDepth 100000
set_option maxHeartbeats 4000000
namespace Go.Proofs.YtkfddjopbocpkaaGreatDoor
open Go.RowKit
theorem Zbp(l:List UInt8):(ByteArray.mk l.toArray).size=l.length:=by simp[ByteArray.size]
theorem Zp6(l:List UInt8)(i:Nat)(h:i<(ByteArray.mk l.toArray).size):(ByteArray.mk l.toArray)[i]'h=l[i]'(by rw[Zbp]at h;exact h):=rfl
theorem Zm8(l:List UInt8)(a b:Nat):(ByteArray.mk l.toArray).extract a b=⟨((l.drop a).take (b-a)).toArray⟩:=by
 apply ByteArray.ext;rw[ByteArray.data_extract];apply Array.ext';simp[List.extract_eq_take_drop]
theorem ZqK(l:List UInt8):(ByteArray.mk l.toArray).toList=l:=by simp
theorem ZqQ(l m:List UInt8):(ByteArray.mk l.toArray)++(ByteArray.mk m.toArray)=⟨(l++m).toArray⟩:=by
 apply ByteArray.ext;simp
theorem ZoV(l:List UInt8)(a:Nat):(ByteArray.mk l.toArray).extract a l.length=⟨(l.drop a).toArray⟩:=by
 rw[Zm8,List.take_of_length_le (by simp)]
attribute [go_sem] Zp6 ZqK ZqQ ZoV
theorem Zaf{P:Program}{t:TypeId}(l:List UInt8){lo hi:Int}(h:P.underlying t=some .string)(h0:0≤lo)(h1:lo≤hi)(h2:hi≤l.length)(w:World):
 (Instr.slice t (.string ⟨l.toArray⟩) (some (.int .i64 lo)) (some (.int .i64 hi)) none).run P w=.ok (.string ⟨((l.drop lo.toNat).take (hi.toNat-lo.toNat)).toArray⟩) w:=by
 rw[run_slice_string (P:=P) w t (ByteArray.mk l.toArray) .i64 .i64 lo hi h h0 h1 (by rw[Zbp];exact h2),Zm8]
theorem Zcy{a b:UInt8}(h:a=b):(((a.toNat:Int))==(b.toNat:Int))=true:=by rw[h];simp
theorem Zn{a b:UInt8}(h:a≠b):(((a.toNat:Int))==(b.toNat:Int))=false:=by
 rw[beq_eq_false_iff_ne];intro e;exact h (UInt8.toNat.inj (Int.ofNat.inj e))
theorem tn_eq{a b:UInt8}(h:a=b):(((a.toNat:Int)) !=(b.toNat:Int))=false:=by rw[bne,Zcy h];rfl
theorem ZoW{a b:UInt8}(h:a≠b):(((a.toNat:Int)) !=(b.toNat:Int))=true:=by rw[bne,Zn h];rfl
theorem ZoX{c d:UInt8}{rx:Bool}(h:c=d)(hn:¬(c=d∧rx=true)):rx=false:=by cases rx<;>simp_all
theorem Zcf(a:UInt8):(0:Int)≤a.toNat∧(a.toNat:Int)≤255:=by have:=a.toNat_lt;omega
theorem ZaY(a:UInt8):((a.toNat:Int)).toNat.toUInt8=a:=by simp
theorem Zia{l:List UInt8}{k:Nat}(h:k<l.length):(l.drop k).take 1=[l[k]]:=by
 rw[List.drop_eq_getElem_cons h];rfl
theorem ZbH{P:Program}{t:TypeId}(l:List UInt8){k:Nat}{lo hi:Int}(h:P.underlying t=some .string)(hk:k<l.length)(h0:lo=k)(h1:hi=k+1)(w:World):
 (Instr.slice t (.string ⟨l.toArray⟩) (some (.int .i64 lo)) (some (.int .i64 hi)) none).run P w=.ok (.string ⟨[l[k]].toArray⟩) w:=by
 subst h0;subst h1;rw[Zaf l h (by omega) (by omega) (by omega),←Zia hk];simp
theorem ZdX{l p:List UInt8}(h:p.length≤l.length):(l.take p.length==p)=p.isPrefixOf l:=by
 rw[Bool.eq_iff_iff,beq_iff_eq,List.isPrefixOf_iff_prefix,List.prefix_iff_eq_take];exact eq_comm
theorem ZdY{l p:List UInt8}(h:¬p.length≤l.length):false=p.isPrefixOf l:=by
 symm;rw[Bool.eq_false_iff];intro e;rw[List.isPrefixOf_iff_prefix]at e
 exact h e.length_le
def nxt(l:List UInt8)(c:UInt8)(k:Nat):Nat:=k+(l.drop k).idxOf c
theorem ZoY{l:List UInt8}{c:UInt8}{k:Nat}(h:k≤l.length):nxt l c k≤l.length:=by
 have:=List.idxOf_le_length (a:=c) (l:=l.drop k);simp[nxt]at *;omega
def adv(l:List UInt8)(c:UInt8)(k:Nat):Nat:=if l[k]? =some c then k+1 else k
theorem ZjP{l:List UInt8}{k:Nat}{c:UInt8}(h:k≤l.length):adv l c k≤l.length:=by
 unfold adv;split
 ·next e=>have:=(List.getElem?_eq_some_iff.1 e).1;omega
 ·exact h
def brE(l:List UInt8)(at_:Nat):Nat:=min (nxt l 93 (adv l 93 (adv l 94 (at_+1)))+1) l.length
theorem ZlH{l:List UInt8}{c:UInt8}{k:Nat}:([c].isPrefixOf (l.drop k)=true)↔l[k]? =some c:=by
 rw[←List.head?_drop];generalize l.drop k=m;cases m with
 |nil=>simp[List.isPrefixOf]
 |cons x m=>simp only[List.isPrefixOf,Bool.and_true,beq_iff_eq,List.head?_cons,Option.some.injEq];exact eq_comm
theorem Zm9{l:List UInt8}{c:UInt8}{k:Nat}(e:[c].isPrefixOf (l.drop k)=true):adv l c k=k+1:=if_pos (ZlH.1 e)
theorem Zna{l:List UInt8}{c:UInt8}{k:Nat}(e:[c].isPrefixOf (l.drop k)=false):adv l c k=k:=if_neg (fun h=>by rw[ZlH.2 h]at e;cases e)
theorem Znb{l:List UInt8}{c:UInt8}{k:Nat}:k≤nxt l c k:=by unfold nxt;omega
theorem ZbI(l:List UInt8)(c:UInt8):Lib.indexByte l c=if l.idxOf c<l.length then(l.idxOf c:Int)else -1:=by
 induction l with
 |nil=>simp[Lib.indexByte]
 |cons b l ih=>
  rw[Lib.indexByte,List.idxOf_cons];by_cases h:(b==c)=true
  ·simp[h]
  ·rw[if_neg h,ih];simp only[h,Bool.false_eq_true,if_false,cond_false,List.length_cons];have:=List.idxOf_le_length (a:=c) (l:=l);by_cases h2:l.idxOf c<l.length
   ·rw[if_pos h2,if_neg (by simp),if_pos (by omega)];omega
   ·rw[if_neg h2,if_pos (by rfl),if_neg (by omega)]
theorem Zb1(l:List UInt8)(c:UInt8): -1≤Lib.indexByte l c∧Lib.indexByte l c≤l.length:=by
 rw[ZbI];have:=List.idxOf_le_length (a:=c) (l:=l);split<;>omega
theorem ZeX{l:List UInt8}{c:UInt8}{k:Nat}(h:k≤l.length):Lib.indexByte (l.drop k) c=if nxt l c k<l.length then(nxt l c k:Int)-k else -1:=by
 rw[ZbI];unfold nxt;have:=List.idxOf_le_length (a:=c) (l:=l.drop k);simp only[List.length_drop]at *;by_cases h2:(l.drop k).idxOf c<l.length-k
 ·rw[if_pos h2,if_pos (by omega)];omega
 ·rw[if_neg h2,if_neg (by omega)]
theorem Znc{l:List UInt8}{c:UInt8}{k:Nat}:k≤adv l c k:=by unfold adv;split<;>omega
theorem Zib{l:List UInt8}{c:UInt8}{a k:Nat}:a+adv (l.drop a) c k=adv l c (a+k):=by
 unfold adv;rw[List.getElem?_drop];split<;>omega
theorem ZlQ{l:List UInt8}{c:UInt8}{a k:Nat}:a+nxt (l.drop a) c k=nxt l c (a+k):=by
 unfold nxt;rw[List.drop_drop];omega
theorem ZdD{l:List UInt8}{a:Nat}(h:a≤l.length):a+brE (l.drop a) 0=brE l a:=by
 unfold brE;rw[←Zib (l:=l) (c:=94) (a:=a) (k:=1),←Zib (l:=l) (c:=93) (a:=a),←ZlQ (l:=l) (c:=93) (a:=a)];simp only[List.length_drop,Nat.zero_add];omega
theorem ZjQ(bs:List UInt8):∀s:ByteArray,(bs.map fun b=>(b.toNat:Int)).foldl (fun(r:ByteArray) n=>r.push (UInt8.ofNat n.toNat)) s=⟨s.data++bs.toArray⟩:=by
 induction bs with
 |nil=>intro s;apply ByteArray.ext;simp
 |cons b bs ih=>
  intro s;rw[List.map_cons,List.foldl_cons,ih];apply ByteArray.ext;show(s.data.push _)++bs.toArray=_;simp
theorem run_conv_bytes{P:Program}{src dst e:TypeId}(hs:P.underlying src=some (.slice e))(he:P.underlying e=some (.int .u8))(hd:P.underlying dst=some .string)(a:Addr)(cap:Nat)(bs:List UInt8)(W:World)
 (hc:∀j v,(ZP bs)[j]? =some v→W.cell? (a.add j)=some v):
 (convert src dst (.slice (some a) bs.length cap)).run P W=.ok (.string ⟨bs.toArray⟩) W:=by
 have hl:=run_loadCells_list (P:=P) W a (ZP bs) hc;rw[ZbF]at hl;rw[run_convert_bytes_string _ src dst e _ _ _ hs he hd,run_bytesToString (ns:=bs.map fun b=>(b.toNat:Int)),ZjQ]
 ·show Result.ok (Value.string ⟨(#[]:Array UInt8)++bs.toArray⟩) W=_;simp
 ·rw[hl];simp[ZP,ZeT,List.map_map,Function.comp_def]
theorem Zdp{P:Program}{src dst e:TypeId}(hs:P.underlying src=some (.slice e))(he:P.underlying e=some (.int .u8))(hd:P.underlying dst=some .string)(d d':UInt8)(W:World):
 (convert src dst (.slice (some ⟨W.heap.size,0,none⟩) 2 2)).run P (W.alloc (.cells #[.int .u8 d.toNat,.int .u8 d'.toNat] e))=.ok (.string ⟨#[d,d']⟩) (W.alloc (.cells #[.int .u8 d.toNat,.int .u8 d'.toNat] e)):=by
 refine run_conv_bytes hs he hd _ 2 [d,d'] _ ?_;intro j v hj
 match j,hj with
 |0,hj=>simp[ZP,ZeT]at hj;subst hj;simp[Addr.add,World.cell?_alloc_new]
 |1,hj=>simp[ZP,ZeT]at hj;subst hj;simp[Addr.add,World.cell?_alloc_new]
def ZaF(c:UInt8):List UInt8:=if c.toNat<128 then[c]else[(192+c.toNat/64).toUInt8,(128+c.toNat%64).toUInt8]
def Zco:List UInt8→List UInt8
 |[]=>[]
 |c::r=>ZaF c++Zco r
def ZoQ(l:List UInt8)(k:Nat):Option (UInt8×Nat):=
 let b:=(l[k]?.getD 0).toNat
 let c:=(l[k+1]?.getD 0).toNat
 if b<128 then some (b.toUInt8,1)
 else if(b=194∨b=195)∧k+1<l.length∧128≤c∧c<192 then some (((b-192)*64+c-128).toUInt8,2)
 else none
theorem ZfC(c:UInt8):1≤(ZaF c).length∧(ZaF c).length≤2:=by unfold ZaF;split<;>simp
theorem ZdZ(a b:List UInt8):Zco (a++b)=Zco a++Zco b:=by
 induction a with
 |nil=>rfl
 |cons c r ih=>simp only[List.cons_append,Zco,ih,List.append_assoc]
theorem ZfD{l:List UInt8}{k:Nat}(h:k<l.length):Zco (l.take (k+1))=Zco (l.take k)++ZaF l[k]:=by
 rw[List.take_succ_eq_append_getElem h,ZdZ];simp[Zco]
theorem Zew{l:List UInt8}{k:Nat}(h:k<l.length):Zco l=Zco (l.take k)++(ZaF l[k]++Zco (l.drop (k+1))):=by
 conv=>lhs;rw[←List.take_append_drop k l,ZdZ,List.drop_eq_getElem_cons h]
 rfl
theorem Znq(l:List UInt8):(Zco l).length≤2*l.length∧l.length≤(Zco l).length:=by
 induction l with
 |nil=>simp[Zco]
 |cons c r ih=>have:=ZfC c;simp only[Zco,List.length_append,List.length_cons];omega
theorem ZjR(p q:List UInt8)(c:UInt8):ZoQ (p++(ZaF c++q)) p.length=some (c,(ZaF c).length):=by
 have hc:=c.toNat_lt;unfold ZaF;split
 ·next h=>simp[ZoQ,h]
 ·next h=>
  have e1:(192+c.toNat/64).toUInt8.toNat=192+c.toNat/64:=by simp;omega
  have e2:(128+c.toNat%64).toUInt8.toNat=128+c.toNat%64:=by simp;omega
  unfold ZoQ;have g0:(p++([(192+c.toNat/64).toUInt8,(128+c.toNat%64).toUInt8]++q))[p.length]? =some (192+c.toNat/64).toUInt8:=by
   rw[List.getElem?_append_right (Nat.le_refl _),Nat.sub_self];rfl
  have g1:(p++([(192+c.toNat/64).toUInt8,(128+c.toNat%64).toUInt8]++q))[p.length+1]? =some (128+c.toNat%64).toUInt8:=by
   rw[List.getElem?_append_right (by omega),show p.length+1-p.length=1 by omega];rfl
  rw[g0,g1];simp only[Option.getD_some,e1,e2];rw[if_neg (by omega),if_pos ⟨by omega,by simp,by omega,by omega⟩];have:(192+c.toNat/64-192)*64+(128+c.toNat%64)-128=c.toNat:=by omega
  rw[this];simp
theorem Znr{l:List UInt8}{k:Nat}(h:k<l.length):ZoQ (Zco l) (Zco (l.take k)).length=some (l[k],(ZaF l[k]).length):=by
 rw[Zew h];exact ZjR _ _ _
theorem Zns{l:List UInt8}{k:Nat}(h:k<l.length):(Zco (l.take k)).length<(Zco l).length:=by
 conv=>rhs;rw[Zew h]
 have:=ZfC l[k];simp only[List.length_append];omega
theorem Znt(l:List UInt8)(i:Nat):((ByteArray.mk l.toArray).get! i)=l[i]?.getD 0:=by
 show(l.toArray)[i]! =_;rw[getElem!_def];simp;cases l[i]? <;>rfl
theorem ZiT{l:List UInt8}{k m:Nat}{c:UInt8}(h:k<l.length)(e:ZoQ l k=some (c,m)):Utf8.decode ⟨l.toArray⟩ k=(c.toNat,m):=by
 unfold ZoQ at e;unfold Utf8.decode;simp only[Znt,Zbp,Nat.add_zero]at e⊢;have hb:=(l[k]?.getD 0).toNat_lt;have hc:=(l[k+1]?.getD 0).toNat_lt;generalize(l[k]?.getD 0).toNat=b at *;generalize(l[k+1]?.getD 0).toNat=d at *;split at e
 ·next hlt=>
  rw[if_pos hlt];injection e with e;injection e with e1 e2;subst e1;subst e2;simp;omega
 ·next hge=>
  rw[if_neg hge];split at e
  ·next hx=>
   injection e with e;injection e with e1 e2;subst e1;subst e2;have q1:(b/32==6)=true:=by simp;omega
   have q2:(d/64==2)=true:=by simp;omega
   have q3:decide (k+1<l.length)=true:=by simp;omega
   simp only[q1,q2,q3,Bool.and_self,if_true];rw[if_pos (by omega)];simp;omega
  ·cases e
open Go.Lib (hid)
theorem appendRune_any(v:Value)(n:Nat)(xs:List Value)(c:UInt8)(w:World)(hown:w.ownsRow 0 5 1 v n xs)(hn:n+2≤140737488355328):
 Calls Tryz.prog 249 #[v,.int .i32 (c.toNat:Int)] w fun e w'=>∃v',e=.returned v'∧w'.ownsRow 0 5 1 v' (n+(ZaF c).length) (xs++ZP (ZaF c))∧
  Fr (fun k=>v.ownBlock=some k) w w'∧(∀k,v'.ownBlock=some k→v.ownBlock=some k∨w.heap.size≤k)∧v'≠.slice none 0 0:=by
 obtain⟨i0,hi,hz0,hz1,hz2⟩:=info_parts ZeW;by_cases h:c.toNat<128
 ·have hw:=hid (show ZaF c=[c] by unfold ZaF;rw[if_pos h]);have h':(c.toNat:Int)≤127:=by omega
  go_enter Tryz.func249,Tryz.ntmps249;go_wp2_with(at_builtin;refine wpList_append_g rfl _ _ 22 rfl 5 i0 (.int .u8 0) 1 1 Tryz.underlying22 hi hz0 hz1 hz2 rfl (by decide) _ _ _ rfl (hown.alloc _) ⟨w.heap.size,0,none⟩ 1 1 [.int .u8 (c.toNat:Int)] rfl rfl ?c1 ?c2 ?c3 ?c4 ?_)
  case c1=>
   intro j u hj
   match j,hj with
   |0,hj=>simp at hj;subst hj;simp[Addr.add]
  case c2=>intro u hu;simp at hu;subst hu;rfl
  case c3=>unfold maxLen;omega
  case c4=>omega
  intro v' w2 hown' hap;have HO:=hid hown';have HA:=hid hap;clear hown' hap;go_wp2;go_ret;refine⟨v',rfl,?_,((Fr.refl (fun k=>v.ownBlock=some k) w).alloc _).trans' HA.out.fr,?_,fun e=>by have:=HA.out.nil.1 e;omega⟩
  ·rw[hw.out];exact HO.out
  ·intro k hk;rcases HA.out.old k hk with h1|h1
   ·exact .inl h1
   ·simp at h1;exact .inr (by omega)
 ·have hw:=hid (show ZaF c=[(192+c.toNat/64).toUInt8,(128+c.toNat%64).toUInt8] by unfold ZaF;rw[if_neg h]);have hlt:=c.toNat_lt;have h':(128:Int)≤(c.toNat:Int):=by omega
  have h2:(c.toNat:Int)≤255:=by omega
  have q1:192+(c.toNat:Int)/64=((192+c.toNat/64).toUInt8.toNat:Int):=by simp;omega
  have q2:128+(c.toNat:Int)%64=((128+c.toNat%64).toUInt8.toNat:Int):=by simp;omega
  obtain⟨x1,hx1⟩:∃x,(192+c.toNat/64).toUInt8=x:=⟨_,rfl⟩;obtain⟨x2,hx2⟩:∃x,(128+c.toNat%64).toUInt8=x:=⟨_,rfl⟩;rw[hx1]at q1 hw;rw[hx2]at q2 hw;have Q1:=hid q1;have Q2:=hid q2;clear hx1 hx2 q1 q2;go_enter Tryz.func249,Tryz.ntmps249;go_wp2_with fail;have HOWN:=hid hown;clear hown;refine(show Calls Tryz.prog 259 #[v,.int .i32 (c.toNat:Int)] w fun e w'=>∃v',e=.returned v'∧w'.ownsRow 0 5 1 v' (n+2) (xs++ZP [x1,x2])∧
   Fr (fun k=>v.ownBlock=some k) w w'∧(∀k,v'.ownBlock=some k→v.ownBlock=some k∨w.heap.size≤k)∧v'≠.slice none 0 0 from ?_).mono ?_
  ·go_enter Tryz.func259,Tryz.ntmps259;go_wp2_with(at_builtin;refine wpList_append_g rfl _ _ 22 rfl 5 i0 (.int .u8 0) 1 1 Tryz.underlying22 hi hz0 hz1 hz2 rfl (by decide) _ _ _ rfl (HOWN.out.alloc _) ⟨w.heap.size,0,none⟩ 2 2 [.int .u8 (x1.toNat:Int),.int .u8 (x2.toNat:Int)] rfl rfl ?d1 ?d2 ?d3 ?d4 ?_)
   case d1=>
    intro j u hj
    match j,hj with
    |0,hj=>simp at hj;subst hj;simp[Addr.add];exact Q1.out
    |1,hj=>simp at hj;subst hj;simp[Addr.add];exact Q2.out
   case d2=>intro u hu;simp at hu;rcases hu with rfl|rfl<;>rfl
   case d3=>unfold maxLen;omega
   case d4=>omega
   intro v' w2 hown' hap;have HO:=hid hown';have HA:=hid hap;clear hown' hap;go_wp2;go_ret;refine⟨v',rfl,HO.out,((Fr.refl (fun k=>v.ownBlock=some k) w).alloc _).trans' HA.out.fr,?_,fun e=>by have:=HA.out.nil.1 e;omega⟩;intro k hk;rcases HA.out.old k hk with h1|h1
   ·exact .inl h1
   ·simp at h1;exact .inr (by omega)
  ·rintro e w2 ⟨v',rfl,hr⟩;have HR:=hid hr;clear hr;go_wp2;go_ret;exact⟨v',rfl,by rw[hw.out];exact HR.out.1,HR.out.2⟩
theorem ZeY(T:TypeId)(b o:Nat)(cs:Array Value)(bs:List UInt8)(g:Option Nat)(c:UInt8)(w:World)(h:Zc3 5 T b o cs bs g w)(hl:Zfx T cs.size o)(hlen:bs.length≤140737488355326):
 Calls Tryz.prog 222 #[.pointer (some ⟨b,o,none⟩),.int .i32 (c.toNat:Int)] w fun e w'=>(∃r,e=.returned r)∧
  ∃v',Zc3 5 T b o (ZaK cs b o v') (bs++ZaF c) v'.ownBlock w'∧Fr (fun k=>k=b∨some k=g) w w'∧(∀k,v'.ownBlock=some k→some k=g∨w.heap.size≤k):=by
 have HL:=hid hl;clear hl;go_enter Tryz.func222,Tryz.ntmps222;go_wp2_with(go_at_call 82;refine(copyCheck_any T b o cs bs g _ h HL.out).mono ?_);rintro e w1 ⟨rfl,h1,hf1⟩;obtain⟨hb,ho,hp,v,hv,hown,hg,hne,hni⟩:=h1;have c1:w1.cell? ⟨b,o+1,none⟩=some v:=cell_at hb hv;obtain⟨va,vc,rfl⟩:=Zb hown;have HB:=hid hb;have HO:=hid ho;have HV:=hid hv;have HG:=hid hg;have HN:=hid hne;have HP:=hid hp;have HI:=hid hni;have HOWN:=hid hown;clear hb ho hv hg hne hp hni hown;go_wp2_with fail;refine(appendRune_any _ _ _ c _ HOWN.out (by omega)).mono ?_;rintro e w2 ⟨v',rfl,hown',hfr',hold',hnn⟩;have hb:=HB.out;have hgb:=HG.out;have hnb:=HN.out;have hb2:w2.heap[b]? =some (.cells (cs.setIfInBounds o (.pointer (some ⟨b,o,none⟩))) T (0,0)):=
  hfr'.heap hb (fun e=>hnb (by rw[←hgb,e]))
 have d1:w2.cell? ⟨b,o+1,none⟩=some (.slice va bs.length vc):=cell_at hb2 HV.out;have f1:w2.frozen? ⟨b,o+1,none⟩=false:=unfrozen_at hb2 _;have hlt:=lt_heap hb;have hne':v'.ownBlock≠some b:=by
  intro e;rcases hold' b e with h|h
  ·exact hnb (by rw[←hgb,h])
  ·omega
 have hnew:∀k,v'.ownBlock=some k→some k=g∨w.heap.size≤k:=by
  intro k hk;have:=hf1.size;rcases hold' k hk with h|h
  ·exact .inl (by rw[←hgb,h])
  ·exact .inr (by omega)
 have hrow:w2.ownsRow 0 5 1 v' (bs++ZaF c).length (ZP (bs++ZaF c)):=by
  rw[Zaj,List.length_append];exact hown'
 have hfr:Fr (fun k=>k=b∨some k=g) w w2:=by
  refine(hf1.mono (fun _ _ h=>Or.inl h)).trans hfr' (fun k _ h=>Or.inr ?_);rw[←hgb,h]
 have hni':bs++ZaF c=[]→v'=.slice none 0 0:=fun h=>by
  rw[List.append_eq_nil_iff]at h;have:=h.2;unfold ZaF at this;split at this<;>simp at this
 obtain⟨ga,gc,hvs⟩:=Zb hrow;have HNI:=hid hni';clear hni';have HB2:=hid hb2;have HNE:=hid hne';have HNEW:=hid hnew;have HROW:=hid hrow;have HFR:=hid hfr;clear hb hb2 hgb hnb hne' hnew hrow hown' hfr hfr' hold' hnn;subst hvs;have hwl:(ZaF c).length≤2:=by unfold ZaF;split<;>simp
 have hle:(bs++ZaF c).length=bs.length+(ZaF c).length:=List.length_append;obtain⟨m,hm⟩:∃m,(bs++ZaF c).length=m:=⟨_,rfl⟩;rw[hm]at HNI HNE HNEW HROW⊢;have hm2:bs.length≤m:=by omega
 have hm3:m≤140737488355328:=by omega
 have HM:=hid hm;clear hwl hle hm;go_wp2;go_ret2;have ho:=HO.out;refine⟨⟨_,rfl⟩,_,⟨Za HB2.out _ _,?_,.inr ?_,_,ZdU ho,?_,rfl,HNE.out,HNI.out⟩,?_,HNEW.out⟩
 ·rw[ZY];simpa using ho
 ·unfold ZaK;rw[Zau (by omega)];exact ZdU (by simp at ho;omega)
 ·rw[HM.out];exact ownsRow_fr HROW.out ((Fr.refl (fun k=>k=b) w2).setCell (p:=⟨b,o+1,none⟩) (fun _=>rfl) _) (fun k hk e=>HNE.out (by rw[hk,e]))
 ·exact HFR.out.setCell (p:=⟨b,o+1,none⟩) (fun _=>Or.inl rfl) _
theorem bb_writeRune(b:Nat)(out:List UInt8)(c:UInt8)(g:Option Nat)(w:World)(h:Bb b out g w)(hlen:out.length≤140737488355326):
 Calls Tryz.prog 222 #[.pointer (some ⟨b,0,none⟩),.int .i32 (c.toNat:Int)] w fun e w'=>(∃r,e=.returned r)∧
  ∃g',Bb b (out++ZaF c) g' w'∧Fr (fun k=>k=b∨some k=g) w w'∧(∀k,g'=some k→some k=g∨w.heap.size≤k):=by
 obtain⟨cs,hb,hs⟩:=h;refine(ZeY _ b 0 cs out g c w hb (Zfy hs) hlen).mono ?_;rintro e w' ⟨he,v',hb',hf,hn⟩;exact⟨he,_,⟨_,hb',by rw[ZY];exact hs⟩,hf,hn⟩
theorem ZlR(l:List UInt8)(w:World)(hl:l.length≤1000000):
 Calls Tryz.prog 212 #[.string ⟨l.toArray⟩] w fun e w'=>e=.returned (.string ⟨(Zco l).toArray⟩)∧Fr nob w w':=by
 go_enter Tryz.func212,Tryz.ntmps212;go_wp2_with fail
 go_loopw [7] (fun i wr=>∃(k:Nat) (g:Option Nat),i=.int .i64 k∧k≤l.length∧Bb w.heap.size (Zco (l.take k)) g wr∧Fr nob w wr∧(∀j,g=some j→w.heap.size≤j)) (fun i _=>l.length-(intOf i).toNat)
 case atStart=>exact⟨0,none,rfl,Nat.zero_le _,Bb.new _,(Fr.refl _ _).alloc _,fun _ h=>(by cases h)⟩
 case round=>
  obtain⟨k,g,rfl,hk,hr,hfr,hg⟩:=hrel;have HR:=hid hr;have HFR:=hid hfr;have HG:=hid hg;clear hr hfr hg;by_cases hlt:k<l.length
  ·have hlen:(Zco (l.take k)).length≤2000000:=by have:=(Znq (l.take k)).1;have:=List.length_take_le k l;omega
   have HT:=hid (ZfD hlt);have hbd:=Zcf l[k];go_wp2_with fail;refine(bb_writeRune _ _ l[k] g _ HR.out (by omega)).mono ?_;rintro e w1 ⟨⟨r,rfl⟩,g1,h1,hf1,hg1⟩;have HB1:=hid h1;have HF1:=hid (ZcJ (g':=none) (Nat.le_refl _) HFR.out HG.out hf1);have HG1:=hid (ZdV HFR.out HG.out hg1);clear h1 hf1 hg1;go_wp2;go_roundw
   case rel=>exact⟨k+1,g1,by go_num,by omega,by rw[HT.out];exact HB1.out,HF1.out,HG1.out⟩
   case measure=>simp[intOf];omega
  ·obtain rfl:k=l.length:=by omega
   have HT:=hid (List.take_of_length_le (l:=l) (Nat.le_refl _));go_wp2_with fail;refine(bb_string _ _ g _ HR.out).mono ?_;rw[HT.out];rintro e w2 ⟨rfl,hf2⟩;have HF2:=hid hf2;clear hf2;go_wp2;go_ret;exact⟨rfl,HFR.out.trans HF2.out (fun i hi h=>by have:=HG.out i h.symm;omega)⟩
theorem ZjS(w:World)(k:Nat)(s:ByteArray)(p:Nat):Fr (fun j=>j=k) w (w.iterAt k s p):=
 ⟨rfl,rfl,rfl,by rw[Lib.iterAt_size];exact Nat.le_refl _,fun i _ hi=>Lib.iterAt_other w k i s p hi⟩
theorem strings_HasPrefixP(l p:List UInt8)(w:World)(hs:l.length≤9223372036854775807)(hp:p.length≤9223372036854775807):
 Calls Tryz.prog 66 #[.string ⟨l.toArray⟩,.string ⟨p.toArray⟩] w fun e w'=>e=.returned (.bool (p.isPrefixOf l))∧w=w':=by
 have HS:=hid hs;have HP:=hid hp;have hx:=Zm8 l 0 p.length;simp only[List.drop_zero,Nat.sub_zero]at hx;go_enter Tryz.func66,Tryz.ntmps66;go_wp2
 all_goals go_ret
 ·exact⟨ret_bool (ZdX (by assumption)),rfl⟩
 ·exact⟨ret_bool (ZdY (by assumption)),rfl⟩
theorem strings_IndexByte(l:List UInt8)(c:Int)(w:World):
 Calls Tryz.prog 56 #[.string ⟨l.toArray⟩,.int .u8 c] w fun e w'=>e=.returned (.int .i64 (Lib.indexByte l c.toNat.toUInt8))∧w=w':=by
 go_enter Tryz.func56,Tryz.ntmps56;go_wp2;rw[run_callFunc_extern Tryz.func113 (by kernel_rfl) (by kernel_rfl) (by kernel_rfl) (e:=Extern.BytealgIndexByte.indexByte) (by kernel_rfl),Lib.run_indexByteString];simp only[Result.andThen];rw[Oper.upon_value];go_wp2;go_ret;exact⟨rfl,rfl⟩
theorem bracket_any(l:List UInt8)(w:World)(hs:l.length≤4611686018427387904)(h1:1≤l.length):
 Calls Tryz.prog 176 #[.string ⟨l.toArray⟩] w fun e w'=>e=.returned (.int .i64 (brE l 0))∧w=w':=by
 have i0:∀w,(Instr.index 276 (.agg #[.string ⟨#[94]⟩,.string ⟨#[93]⟩]) (.int .i64 0)).run Tryz.prog w=.ok (.string ⟨#[94]⟩) w:=fun _=>by kernel_rfl
 have i1:∀w,(Instr.index 276 (.agg #[.string ⟨#[94]⟩,.string ⟨#[93]⟩]) (.int .i64 1)).run Tryz.prog w=.ok (.string ⟨#[93]⟩) w:=fun _=>by kernel_rfl
 go_enter Tryz.func176,Tryz.ntmps176;go_wp2
 go_loop [3,8] (fun b i=>(b=.int .i64 1∧i=.int .i64 0)∨(b=.int .i64 (adv l 94 1)∧i=.int .i64 1)∨(b=.int .i64 (adv l 93 (adv l 94 1))∧i=.int .i64 2)) (fun _ i=>2-(intOf i).toNat)
 case atStart=>exact .inl ⟨rfl,rfl⟩
 case round=>
  rcases hrel with⟨rfl,rfl⟩|⟨rfl,rfl⟩|⟨rfl,rfl⟩
  ·go_wp2_with(go_at_call 66;refine(strings_HasPrefixP _ _ w (by simp;omega) (by simp)).mono ?_;rintro e w' ⟨rfl,rfl⟩)
   ·have e:=Zm9 (l:=l) (c:=94) (k:=1) (by rw[List.drop_one];assumption)
    go_round
    case rel=>exact .inr (.inl ⟨by rw[e];rfl,rfl⟩)
    case measure=>simp[intOf]
   ·have e:=Zna (l:=l) (c:=94) (k:=1) (by rw[List.drop_one];assumption)
    go_round
    case rel=>exact .inr (.inl ⟨by rw[e];rfl,rfl⟩)
    case measure=>simp[intOf]
  ·have ha:adv l 94 1≤l.length:=ZjP h1;go_wp2_with(go_at_call 66;refine(strings_HasPrefixP _ _ w (by simp;omega) (by simp)).mono ?_;rintro e w' ⟨rfl,rfl⟩)
   ·have e:=Zm9 (l:=l) (c:=93) (k:=adv l 94 1) (by assumption)
    go_round
    case rel=>exact .inr (.inr ⟨by rw[e];go_num,rfl⟩)
    case measure=>simp[intOf]
   ·have e:=Zna (l:=l) (c:=93) (k:=adv l 94 1) (by assumption)
    go_round
    case rel=>exact .inr (.inr ⟨by rw[e],rfl⟩)
    case measure=>simp[intOf]
  ·have ha:adv l 93 (adv l 94 1)≤l.length:=ZjP (ZjP h1);have hb:=Zb1 (l.drop (adv l 93 (adv l 94 1))) 93;have hn:=hid (ZeX (c:=93) ha);have hl:=ZoY (c:=93) ha;have hg:=Znb (l:=l) (c:=93) (k:=adv l 93 (adv l 94 1));simp only[List.length_drop]at hb;go_wp2_with(go_at_call 56;refine(strings_IndexByte _ _ w).mono ?_;rintro e w' ⟨rfl,rfl⟩)
   ·have hlt:Lib.indexByte (List.drop (adv l 93 (adv l 94 1)) l) 93<0:=by assumption
    go_ret;refine⟨ZdT ?_,rfl⟩;have hn:=hn.out;unfold brE;simp only[Nat.zero_add];split at hn<;>omega
   ·have hlt:0≤Lib.indexByte (List.drop (adv l 93 (adv l 94 1)) l) 93:=by assumption
    go_ret;refine⟨ZdT ?_,rfl⟩;have hn:=hn.out;unfold brE;simp only[Nat.zero_add];split at hn<;>omega
def Rdr(b:Nat)(s:List UInt8)(at_:Nat)(out:List UInt8)(g:Option Nat)(w:World):Prop:=
 ∃cs,Zc3 5 262 b 2 cs out g w∧cs.size=4∧cs[0]? =some (.string ⟨s.toArray⟩)∧cs[1]? =some (.int .i64 at_)
theorem ZfE{n:Nat}(h:n=4):Zfx 262 n 2:=by subst h;unfold Zfx;kernel_rfl
theorem Rdr.drew{b:Nat}{s:List UInt8}{at_:Nat}{out:List UInt8}{g:Option Nat}{w:World}(h:Rdr b s at_ out g w):Rdr b s at_ out g w.drew:=h
theorem Rdr.cell0{b:Nat}{s:List UInt8}{at_:Nat}{out:List UInt8}{g:Option Nat}{w:World}(h:Rdr b s at_ out g w):w.cell? ⟨b,0,none⟩=some (.string ⟨s.toArray⟩):=by
 obtain⟨cs,⟨hb,_⟩,_,h0,_⟩:=h;exact cell_at hb h0
theorem Rdr.cell1{b:Nat}{s:List UInt8}{at_:Nat}{out:List UInt8}{g:Option Nat}{w:World}(h:Rdr b s at_ out g w):w.cell? ⟨b,1,none⟩=some (.int .i64 at_):=by
 obtain⟨cs,⟨hb,_⟩,_,_,h1⟩:=h;exact cell_at hb h1
theorem Rdr.thawed{b:Nat}{s:List UInt8}{at_:Nat}{out:List UInt8}{g:Option Nat}{w:World}(h:Rdr b s at_ out g w)(j:Nat):w.frozen? ⟨b,j,none⟩=false:=by
 obtain⟨cs,⟨hb,_⟩,_⟩:=h;exact unfrozen_at hb j
theorem Rdr.moved{b:Nat}{s:List UInt8}{at_:Nat}{out:List UInt8}{g:Option Nat}{w:World}(h:Rdr b s at_ out g w)(k:Nat):Rdr b s k out g (w.setCell ⟨b,1,none⟩ (.int .i64 k)):=by
 obtain⟨cs,⟨hb,ho,hp,v,hv,hown,hg,hne,hn⟩,hs,h0,h1⟩:=h;refine⟨cs.setIfInBounds 1 (.int .i64 k),⟨Za hb 1 _,by simpa using ho,?_,v,?_,?_,hg,hne,hn⟩,by simpa using hs,?_,ZdU (by omega)⟩
 ·rw[Zau (by omega)];exact hp
 ·rw[Zau (by omega)];exact hv
 ·exact ownsRow_fr hown ((Fr.refl (fun k=>k=b) w).setCell (p:=⟨b,1,none⟩) (fun _=>rfl) _) (fun k hk e=>hne (by rw[←hg,hk,e]))
 ·rw[Zau (by omega)];exact h0
theorem Zd0(b:Nat)(s:List UInt8)(at_:Nat)(out l:List UInt8)(g:Option Nat)(w:World)(h:Rdr b s at_ out g w)(hlen:out.length+l.length≤140737488355328):
 Calls Tryz.prog 50 #[.pointer (some ⟨b,2,none⟩),.string ⟨l.toArray⟩] w fun e w'=>e=.returned (.tuple #[.int .i64 l.length,.nilIface])∧
  ∃g',Rdr b s at_ (out++l) g' w'∧Fr (fun k=>k=b∨some k=g) w w'∧(∀k,g'=some k→some k=g∨w.heap.size≤k):=by
 obtain⟨cs,hb,hs,h0,h1⟩:=h;refine(ZdW _ b 2 cs out g l w hb (ZfE hs) hlen).mono ?_;rintro e w' ⟨rfl,v',hb',hf,hn⟩;exact⟨rfl,_,⟨_,hb',by rw[ZY];exact hs,by rw[ZbG _ _ _ _ (by omega) (by omega)];exact h0,by rw[ZbG _ _ _ _ (by omega) (by omega)];exact h1⟩,hf,hn⟩
theorem rdr_writeByte(b:Nat)(s:List UInt8)(at_:Nat)(out:List UInt8)(c:Int)(g:Option Nat)(w:World)(hc:0≤c∧c≤255)(h:Rdr b s at_ out g w)(hlen:out.length≤140737488355327):
 Calls Tryz.prog 77 #[.pointer (some ⟨b,2,none⟩),.int .u8 c] w fun e w'=>e=.returned .nilIface∧
  ∃g',Rdr b s at_ (out++[c.toNat.toUInt8]) g' w'∧Fr (fun k=>k=b∨some k=g) w w'∧(∀k,g'=some k→some k=g∨w.heap.size≤k):=by
 obtain⟨cs,hb,hs,h0,h1⟩:=h;refine(ZcK _ b 2 cs out g c w hc hb (ZfE hs) hlen).mono ?_;rintro e w' ⟨rfl,v',hb',hf,hn⟩;exact⟨rfl,_,⟨_,hb',by rw[ZY];exact hs,by rw[ZbG _ _ _ _ (by omega) (by omega)];exact h0,by rw[ZbG _ _ _ _ (by omega) (by omega)];exact h1⟩,hf,hn⟩
def ZgZ(b:Nat)(s:List UInt8)(at_:Nat)(out:List UInt8)(g:Option Nat)(w w':World):Prop:=
 ∃g',Rdr b s at_ out g' w'∧Fr (fun k=>k=b∨some k=g) w w'∧(∀k,g'=some k→some k=g∨w.heap.size≤k)
theorem copy_yes(b:Nat)(s:List UInt8)(at_ n:Nat)(out:List UInt8)(g:Option Nat)(w:World)(h:Rdr b s at_ out g w)(hs:s.length≤1000000)(ho:out.length≤1000000)(hn:at_+n≤s.length)
 (hi:Lib.indexByte ((s.drop at_).take n) 10<0):
 Calls Tryz.prog 177 #[.pointer (some ⟨b,0,none⟩),.int .i64 n] w fun e w'=>e=.returned (.bool true)∧ZgZ b s (at_+n) (out++(s.drop at_).take n) g w w':=by
 have c0:=h.cell0;have c1:=h.cell1;have H:=hid h;clear h;have hw:IntKind.i64.wrap ((at_:Int)+n)=at_+n:=IntWalk.i64_in _ (by omega);have hsl:=Zaf (P:=Tryz.prog) s (lo:=at_) (hi:=(at_:Int)+n) Tryz.underlying9 (by omega) (by omega) (by omega);go_enter Tryz.func177,Tryz.ntmps177;go_wp2
 go_still_tail 14,(by kernel_rfl)
 change wpList _ _ _ _ _ w.drew;go_wp2_with(go_at_call 56;refine(strings_IndexByte _ _ _).mono ?_;rintro e w' ⟨rfl,rfl⟩);refine(Zd0 b s at_ out ((s.drop at_).take n) g _ H.out.drew (by have:=List.length_take_le n (s.drop at_);omega)).mono ?_;rintro e w1 ⟨rfl,g',h1,hf,hn1⟩;have d1:=h1.cell1;have t1:=h1.thawed 1;have H1:=hid h1;clear h1;go_wp2;go_ret;refine⟨rfl,g',H1.out.moved (at_+n),?_,hn1⟩;exact(((Fr.refl _ w).drew).trans' hf).setCell (p:=⟨b,1,none⟩) (fun _=>Or.inl rfl) _
theorem copy_no(b:Nat)(s:List UInt8)(at_ n:Nat)(out:List UInt8)(g:Option Nat)(w:World)(h:Rdr b s at_ out g w)(hs:s.length≤1000000)(hn:at_+n≤s.length)
 (i:Nat) (hi:Lib.indexByte ((s.drop at_).take n) 10=i):
 Calls Tryz.prog 177 #[.pointer (some ⟨b,0,none⟩),.int .i64 n] w fun e w'=>e=.returned (.bool false)∧ZgZ b s (at_+i) out g w w':=by
 have c0:=h.cell0;have c1:=h.cell1;have t1:=h.thawed 1;have H:=hid h;clear h;have hw:IntKind.i64.wrap ((at_:Int)+n)=at_+n:=IntWalk.i64_in _ (by omega);have hsl:=Zaf (P:=Tryz.prog) s (lo:=at_) (hi:=(at_:Int)+n) Tryz.underlying9 (by omega) (by omega) (by omega);have hbd:=Zb1 ((s.drop at_).take n) 10;have hll:((s.drop at_).take n).length≤n:=List.length_take_le _ _;have hi2:(i:Int)≤n:=by omega
 have hi3:(0:Int)≤i:=by omega
 clear hbd hll;go_enter Tryz.func177,Tryz.ntmps177;go_wp2
 go_still_tail 14,(by kernel_rfl)
 change wpList _ _ _ _ _ w.drew;clear hw;go_wp2_with(go_at_call 56;refine(strings_IndexByte _ _ _).mono ?_;rintro e w' ⟨rfl,rfl⟩);go_ret;exact⟨rfl,g,(H.out.moved (at_+i)),((Fr.refl _ w).setCell (p:=⟨b,1,none⟩) (fun _=>Or.inl rfl) _).drew,fun k hk=>.inl hk.symm⟩
def esc(s:List UInt8)(d:UInt8)(rx:Bool)(at_:Nat)(out:List UInt8):Int×Nat×List UInt8:=
 match s[at_+1]? with
 |none=>(5,s.length,out)
 |some x=>if x=d then(0,at_+2,out++[x])else if x=10∧rx=true then(2,at_+1,out)else(0,at_+2,out++[92,x])
theorem escape_any(b:Nat)(s:List UInt8)(at_:Nat)(out:List UInt8)(d:UInt8)(rx:Bool)(g:Option Nat)(w:World)(h:Rdr b s at_ out g w)(hs:s.length≤1000000)(ho:out.length≤1000000)(hat:at_<s.length):
 Calls Tryz.prog 175 #[.pointer (some ⟨b,0,none⟩),.int .u8 d.toNat,.bool rx] w fun e w'=>
  e=.returned (.int .i64 (esc s d rx at_ out).1)∧ZgZ b s (esc s d rx at_ out).2.1 (esc s d rx at_ out).2.2 g w w':=by
 have c0:=h.cell0;have c1:=h.cell1;have t1:=h.thawed 1;by_cases hend:at_+1=s.length
 ·have hE:esc s d rx at_ out=(5,s.length,out):=by unfold esc;rw[List.getElem?_eq_none (by omega)]
  rw[hE];clear hE;have ht:((at_:Int)+1==s.length)=true:=by simp;omega
  have H:=hid h;clear h;have HE:=hid hend;clear hend;go_enter Tryz.func175,Tryz.ntmps175;have hw:IntKind.i64.wrap ((at_:Int)+1)=at_+1:=IntWalk.i64_in _ (by omega);go_wp2
  go_still_tail 10,(by kernel_rfl)
  change wpList _ _ _ _ _ w.drew;clear hw;go_wp2;go_ret;exact⟨rfl,g,H.out.moved s.length,((Fr.refl _ w).setCell (p:=⟨b,1,none⟩) (fun _=>Or.inl rfl) _).drew,fun k hk=>.inl hk.symm⟩
 ·have hlt:at_+1<s.length:=by omega
  have hx:s[at_+1]? =some s[at_+1]:=List.getElem?_eq_getElem hlt;have ht:((at_:Int)+1==s.length)=false:=by simp;omega
  have hlt':(at_:Int)+1<s.length:=by omega
  have hw:IntKind.i64.wrap ((at_:Int)+1)=at_+1:=IntWalk.i64_in _ (by omega);have hbd:=Zcf s[at_+1];have hq1:(0:Int)≤(at_:Int)+1:=by omega
  have hq2:((at_:Int)+1).toNat=at_+1:=by omega
  have hbk:=hid (ZaY s[at_+1]);by_cases hd:s[at_+1]=d
  ·have hE:esc s d rx at_ out=(0,at_+2,out++[s[at_+1]]):=by unfold esc;rw[hx];simp only[hd,if_true]
   rw[hE];clear hE hx;have ht2:=Zcy hd;have H:=hid h;clear h;have HD:=hid hd;clear hd;go_enter Tryz.func175,Tryz.ntmps175;go_wp2
   go_quiet (fail)
   go_wp2
   go_quiet (fail)
   go_wp2_with fail;refine(rdr_writeByte b s at_ out _ g _ hbd (by exact H.out) (by omega)).mono ?_;rintro e w1 ⟨rfl,g',h1,hf,hn1⟩;rw[hbk.out]at h1;have d1:=h1.cell1;have t2:=h1.thawed 1;have H1:=hid h1;clear h1;go_wp2;go_ret;refine⟨rfl,g',H1.out.moved (at_+2),?_,hn1⟩;exact(((Fr.refl _ w).drewN _).trans' hf).setCell (p:=⟨b,1,none⟩) (fun _=>Or.inl rfl) _
  ·have ht2:=Zn hd;by_cases hn:s[at_+1]=10∧rx=true
   ·obtain⟨h10,rfl⟩:=hn;have hE:esc s d true at_ out=(2,at_+1,out):=by unfold esc;rw[hx];simp only[hd,h10,if_false,and_self,if_true];rw[if_neg (by rw[←h10];exact hd)]
    rw[hE];clear hE hx;have ht3:((s[at_+1].toNat:Int)==10)=true:=by rw[h10];rfl
    have H:=hid h;clear h;have HD:=hid hd;clear hd;clear h10;go_enter Tryz.func175,Tryz.ntmps175;go_wp2
    go_quiet (fail)
    go_wp2
    go_quiet (fail)
    go_wp2;go_ret;refine⟨rfl,g,H.out.moved (at_+1),?_,fun k hk=>.inl hk.symm⟩;exact((Fr.refl _ w).setCell (p:=⟨b,1,none⟩) (fun _=>Or.inl rfl) _).drewN _
   ·have hE:esc s d rx at_ out=(0,at_+2,out++[92,s[at_+1]]):=by unfold esc;rw[hx];simp only[hd,if_false,hn]
    rw[hE];clear hE hx;have ht3:((s[at_+1].toNat:Int)==10)=false∨(((s[at_+1].toNat:Int)==10)=true∧rx=false):=by
     by_cases h10:s[at_+1]=10
     ·right;exact⟨by rw[h10];rfl,ZoX h10 hn⟩
     ·left;exact Zn h10
    have H:=hid h;clear h;have HD:=hid hd;clear hd;clear hn;rcases ht3 with ht3|⟨ht3,rfl⟩
    all_goals
     go_enter Tryz.func175,Tryz.ntmps175;go_wp2
     go_quiet (fail)
     go_wp2
     go_quiet (fail)
     go_wp2_with fail;refine(rdr_writeByte b s at_ out 92 g _ (by omega) (by exact H.out) (by omega)).mono ?_;rintro e w0 ⟨rfl,g0,h0,hf0,hn0⟩;go_wp2_with fail;refine(rdr_writeByte b s at_ _ _ g0 _ hbd h0 (by simp;omega)).mono ?_;rintro e w1 ⟨rfl,g',h1,hf,hn1⟩;rw[hbk.out]at h1;have d1:=h1.cell1;have t2:=h1.thawed 1;have H1:=hid h1;clear h1;have H0:=hid h0;clear h0;go_wp2;go_ret;have hsz:=hf0.size;have h1':=H1.out;simp only[List.append_assoc,List.cons_append,List.nil_append]at h1';refine⟨rfl,g',Rdr.moved h1' (at_+2),?_,fun k hk=> ?_⟩
     ·exact((((Fr.refl _ w).drewN _).trans' hf0).trans hf (fun i hi h=>h.imp_right fun h=>by rcases hn0 i h.symm with h|h;exact h;simp[World.drewN]at h;omega)).setCell (p:=⟨b,1,none⟩) (fun _=>Or.inl rfl) _
     ·rcases hn1 k hk with h|h
      ·exact hn0 k h.symm
      ·exact .inr (by simp[World.drewN]at hsz;omega)
def bt(l:List UInt8)(d:UInt8)(rx:Bool):Nat→Nat→List UInt8→List UInt8×Nat×Int
 |0,_,_=>([],0,0)
 |n+1,k,out=>
  match l[k]? with
  |none=>([],l.length,5)
  |some c=>
   if c=d then(out,k+1,0)
   else if c=92 then(if(esc l d rx k out).1=0 then bt l d rx n (esc l d rx k out).2.1 (esc l d rx k out).2.2 else([],(esc l d rx k out).2.1,(esc l d rx k out).1))
   else
    let m:=if c=91∧rx=true then brE l k-k else 1
    let i:=Lib.indexByte ((l.drop k).take m) 10
    if i<0 then bt l d rx n (k+m) (out++(l.drop k).take m)else([],k+i.toNat,2)
theorem over_any(l:List UInt8)(at_:Int)(w:World)(hs:l.length≤1000000):
 Calls Tryz.prog 128 #[.string ⟨l.toArray⟩,.int .i64 at_] w fun e w'=>e=.returned (.bool (decide (at_<0)||decide ((l.length:Int)<at_)))∧w=w':=by
 go_enter Tryz.func128,Tryz.ntmps128;go_wp2
 all_goals go_ret
 all_goals simp_all
theorem Znu(w:World)(l:List UInt8)(k:Nat):Rdr w.heap.size l k [] none (w.alloc (.cells #[.string ⟨l.toArray⟩,.int .i64 k,.pointer none,.slice none 0 0] 262)):=
 ⟨_,⟨Zj w _,by simp,.inl rfl,.slice none 0 0,rfl,World.ownsRow_nil _ _ _ _,rfl,by simp,fun _=>rfl⟩,rfl,rfl,rfl⟩
theorem rdr_string(b:Nat)(s:List UInt8)(at_:Nat)(out:List UInt8)(g:Option Nat)(w:World)(h:Rdr b s at_ out g w):
 Calls Tryz.prog 49 #[.pointer (some ⟨b,2,none⟩)] w fun e w'=>e=.returned (.string ⟨out.toArray⟩)∧w'.cell? ⟨b,1,none⟩=some (.int .i64 at_)∧Fr (fun k=>some k=g) w w':=by
 obtain⟨cs,hb,hs,h0,h1⟩:=h;refine(Zev _ b 2 cs out g w hb).mono ?_;rintro e w' ⟨rfl,hf⟩;obtain⟨hbk,_,_,v,_,_,_,hne,_⟩:=hb;exact⟨rfl,cell_at (hf.heap hbk (fun e=>hne e.symm)) h1,hf⟩
theorem ZoZ{l:List UInt8}{d:UInt8}{rx:Bool}{k:Nat}{out:List UInt8}(h:(esc l d rx k out).1=0):
 (esc l d rx k out).2.1=k+2∧k+2≤l.length∧(esc l d rx k out).2.2.length≤out.length+2:=by
 revert h;unfold esc
 cases hx:l[k+1]? with
 |none=>simp
 |some x=>
  have hlt:=(List.getElem?_eq_some_iff.1 hx).1;simp only;split
  ·intro _;refine⟨rfl,by omega,by simp⟩
  ·split
   ·intro h;simp at h
   ·intro _;refine⟨rfl,by omega,by simp⟩
def Zqg(l:List UInt8)(d:UInt8)(rx:Bool)(F:List UInt8×Nat×Int)(w:World)(n:Nat)(wr:World):Prop:=
 ∃(k:Nat) (out:List UInt8) (g:Option Nat),l.length<n+k∧k≤l.length∧out.length≤k∧Rdr w.heap.size l k out g wr∧Fr nob w wr∧(∀j,g=some j→w.heap.size≤j)∧bt l d rx n k out=F
theorem Znv{l:List UInt8}{d:UInt8}{rx:Bool}{n k:Nat}{out:List UInt8}(h:l.length≤k):bt l d rx (n+1) k out=([],l.length,5):=by
 rw[bt,List.getElem?_eq_none h]
theorem Zo0{l:List UInt8}{d:UInt8}{rx:Bool}{n k:Nat}{out:List UInt8}(h:k<l.length)(e:l[k]=d):bt l d rx (n+1) k out=(out,k+1,0):=by
 rw[bt,List.getElem?_eq_getElem h];simp[e]
theorem Zo1{l:List UInt8}{d:UInt8}{rx:Bool}{n k:Nat}{out:List UInt8}(h:k<l.length)(e:l[k]≠d)(e2:l[k]=92):
 bt l d rx (n+1) k out=(if(esc l d rx k out).1=0 then bt l d rx n (esc l d rx k out).2.1 (esc l d rx k out).2.2 else([],(esc l d rx k out).2.1,(esc l d rx k out).1)):=by
 rw[bt,List.getElem?_eq_getElem h];simp only;rw[if_neg e,if_pos e2]
theorem ZjT{l:List UInt8}{d:UInt8}{rx:Bool}{n k m:Nat}{out:List UInt8}(h:k<l.length)(e:l[k]≠d)(e2:l[k]≠92)(hm:(if l[k]=91∧rx=true then brE l k-k else 1)=m):
 bt l d rx (n+1) k out=(if Lib.indexByte ((l.drop k).take m) 10<0 then bt l d rx n (k+m) (out++(l.drop k).take m)else([],k+(Lib.indexByte ((l.drop k).take m) 10).toNat,2)):=by
 rw[bt,List.getElem?_eq_getElem h];simp only;rw[if_neg e,if_neg e2,hm]
theorem Zg0(l:List UInt8)(at_:Nat)(d:UInt8)(rx:Bool)(w:World)(hs:l.length≤100000)(hat:at_≤l.length):
 Calls Tryz.prog 147 #[.string ⟨l.toArray⟩,.int .i64 at_,.int .u8 d.toNat,.bool rx] w fun e w'=>
  e=.returned (.tuple #[.string ⟨(bt l d rx (l.length+1) at_ []).1.toArray⟩,.int .i64 (bt l d rx (l.length+1) at_ []).2.1,.int .i64 (bt l d rx (l.length+1) at_ []).2.2])∧Fr nob w w':=by
 obtain⟨F,hF⟩:∃F,bt l d rx (l.length+1) at_ []=F:=⟨_,rfl⟩;rw[hF];have HF:=hid hF;clear hF;have ho:(decide ((at_:Int)<0)||decide ((l.length:Int)<at_))=false:=by simp;omega
 have HO:=hid ho;clear ho;go_enter Tryz.func147,Tryz.ntmps147;go_wp2_with(go_at_call 128;refine(over_any _ _ w (by omega)).mono ?_;rw[HO.out];rintro e w' ⟨rfl,rfl⟩)
 go_loopg [12] (l.length+1) (fun n _ wr=>Zqg l d rx F w n wr)
 case atStart=>exact⟨at_,[],none,by omega,hat,Nat.zero_le _,Znu _ _ _,(Fr.refl _ _).alloc _,fun _ h=>(by cases h),HF.out⟩
 case round=>
  obtain⟨k,out,g,hn,hk,hout,hr,hfr,hg,hb⟩:=hrel;obtain⟨m,rfl⟩:∃m,gk=m+1:=⟨gk-1,by omega⟩;have c0:=hr.cell0;have c1:=hr.cell1;have HR:=hid hr;clear hr;have HFR:=hid hfr;clear hfr;have HG:=hid hg;clear hg;by_cases hlt:k<l.length
  ·by_cases hd:l[k]=d
   ·rw[Zo0 hlt hd]at hb;subst hb;have t1:=Zcy hd;have hw:IntKind.i64.wrap ((k:Int)+1)=k+1:=IntWalk.i64_in _ (by omega);clear hd;go_wp2_with fail
    go_region_with (go_at_call 49;refine(rdr_string _ l k out g _ (by exact HR.out)).mono ?_;rintro e w1 ⟨rfl,d1,hf1⟩;have HF1:=hid hf1;clear hf1)
    all_goals
     go_wp2;go_ret3;exact⟨rfl,HFR.out.drew.trans HF1.out (fun i hi h=>by have:=HG.out i h.symm;omega)⟩
   ·have t1:=Zn hd;by_cases h92:l[k]=92
    ·rw[Zo1 hlt hd h92]at hb;have t2:((l[k].toNat:Int)==92)=true:=by rw[h92];rfl
     have HB:=hid hb;clear hb hd h92;go_wp2_with(go_at_call 175;refine(escape_any _ l k out d rx g _ HR.out (by omega) (by omega) hlt).mono ?_;rintro e w1 ⟨rfl,g1,hr1,hf1,hg1⟩)
     ·have hne:((esc l d rx k out).1 !=0)=true:=by assumption
      have hb:=HB.out;rw[if_neg (by simpa using hne)]at hb;subst hb;have d1:=hr1.cell1;have HF1:=hid hf1;clear hf1;have HR1:=hid hr1;clear hr1;have HG1:=hid hg1;clear hg1
      go_quiet (fail)
      go_wp2;go_ret3;exact⟨rfl,(HFR.out.trans HF1.out (fun i hi h=>by rcases h with h|h;omega;have:=HG.out i h.symm;omega)).drewN _⟩
     ·have heq:(esc l d rx k out).1=0:=by have:((esc l d rx k out).1 !=0)=false:=by assumption
                                          simpa using this
      obtain⟨e1,e2,e3⟩:=ZoZ heq;have hb:=HB.out;rw[if_pos heq]at hb;have hsz:=HFR.out.size;clear heq;go_roundg m
      case measure=>omega
      case rel=>exact⟨_,_,g1,by omega,by omega,by omega,hr1,HFR.out.trans hf1 (fun i hi h=>by rcases h with h|h;omega;have:=HG.out i h.symm;omega),fun j hj=>by rcases hg1 j hj with h|h;exact HG.out j h.symm;omega,hb⟩
    ·have t2:((l[k].toNat:Int)==92)=false:=Zn h92;by_cases h91:l[k]=91∧rx=true
     ·obtain⟨h91,rfl⟩:=h91;have t3:((l[k].toNat:Int)==91)=true:=by rw[h91];rfl
      have hm:(if l[k]=91∧true=true then brE l k-k else 1)=brE (l.drop k) 0:=by rw[if_pos ⟨h91,rfl⟩,←ZdD (by omega)];omega
      rw[ZjT hlt hd h92 hm]at hb;have hle:k+brE (l.drop k) 0≤l.length:=by rw[ZdD (by omega)];unfold brE;omega
      have hge:1≤brE (l.drop k) 0:=by unfold brE;simp only[List.length_drop];omega
      have HB:=hid hb;clear hb hm hd h92 h91;obtain⟨q,hq⟩:∃q,brE (l.drop k) 0=q:=⟨_,rfl⟩;have HQ:=hid hq;clear hq;rw[HQ.out]at hle hge HB;by_cases hi:Lib.indexByte ((l.drop k).take q) 10<0
      ·have hb:=HB.out;rw[if_pos hi]at hb;have HI:=hid hi;clear hi;go_wp2_with(go_at_call 176;refine(bracket_any (l.drop k) _ (by simp;omega) (by simp;omega)).mono ?_;rw[HQ.out];rintro e w' ⟨rfl,rfl⟩);go_wp2_with(go_at_call 177;refine(copy_yes _ l k q out g _ (by exact HR.out) (by omega) (by omega) hle HI.out).mono ?_;rintro e w1 ⟨rfl,g1,hr1,hf1,hg1⟩);have hsz:=HFR.out.size;have hl:=List.length_take_le q (l.drop k);go_roundg m
       case measure=>omega
       case rel=>exact⟨_,_,g1,by omega,by omega,by rw[List.length_append];omega,hr1,HFR.out.trans hf1 (fun i hi h=>by rcases h with h|h;omega;have:=HG.out i h.symm;omega),fun j hj=>by rcases hg1 j hj with h|h;exact HG.out j h.symm;omega,hb⟩
      ·have hb:=HB.out;rw[if_neg hi]at hb;obtain⟨i,hi2⟩:∃i:Nat,Lib.indexByte ((l.drop k).take q) 10=i:=⟨_,(Int.toNat_of_nonneg (by omega)).symm⟩;rw[hi2,Int.toNat_natCast]at hb;subst hb;have HI:=hid hi2;clear hi hi2;go_wp2_with(go_at_call 176;refine(bracket_any (l.drop k) _ (by simp;omega) (by simp;omega)).mono ?_;rw[HQ.out];rintro e w' ⟨rfl,rfl⟩);go_wp2_with(go_at_call 177;refine(copy_no _ l k q out g _ (by exact HR.out) (by omega) hle i HI.out).mono ?_;rintro e w1 ⟨rfl,g1,hr1,hf1,hg1⟩);have d1:=hr1.cell1;have HF1:=hid hf1;clear hf1;have HR1:=hid hr1;clear hr1;have HG1:=hid hg1;clear hg1
       go_quiet (fail)
       go_wp2;go_ret3;exact⟨rfl,(HFR.out.trans HF1.out (fun i hi h=>by rcases h with h|h;omega;have:=HG.out i h.symm;omega)).drewN _⟩
     ·rw[ZjT hlt hd h92 (if_neg h91)]at hb;have t3:((l[k].toNat:Int)==91)=false∨(((l[k].toNat:Int)==91)=true∧rx=false):=by
       by_cases h10:l[k]=91
       ·right;exact⟨by rw[h10];rfl,ZoX h10 h91⟩
       ·left;exact Zn h10
      have HB:=hid hb;clear hb hd h92 h91;obtain⟨q,hq⟩:∃q:Nat,q=1:=⟨1,rfl⟩;have hle:k+1≤l.length:=by omega
      rcases t3 with t3|⟨t3,rfl⟩
      all_goals
       by_cases hi:Lib.indexByte ((l.drop k).take 1) 10<0
       ·have hb:=HB.out;rw[if_pos hi]at hb;have HI:=hid hi;clear hi;go_wp2_with(go_at_call 177;refine(copy_yes _ l k 1 out g _ (by exact HR.out) (by omega) (by omega) hle HI.out).mono ?_;rintro e w1 ⟨rfl,g1,hr1,hf1,hg1⟩);have hsz:=HFR.out.size;have hl:=List.length_take_le 1 (l.drop k);go_roundg m
        case measure=>omega
        case rel=>exact⟨_,_,g1,by omega,by omega,by rw[List.length_append];omega,hr1,HFR.out.trans hf1 (fun i hi h=>by rcases h with h|h;omega;have:=HG.out i h.symm;omega),fun j hj=>by rcases hg1 j hj with h|h;exact HG.out j h.symm;omega,hb⟩
       ·have hb:=HB.out;rw[if_neg hi]at hb;obtain⟨i,hi2⟩:∃i:Nat,Lib.indexByte ((l.drop k).take 1) 10=i:=⟨_,(Int.toNat_of_nonneg (by omega)).symm⟩;rw[hi2,Int.toNat_natCast]at hb;subst hb;have HI:=hid hi2;clear hi hi2;go_wp2_with(go_at_call 177;refine(copy_no _ l k 1 out g _ (by exact HR.out) (by omega) hle i HI.out).mono ?_;rintro e w1 ⟨rfl,g1,hr1,hf1,hg1⟩);have d1:=hr1.cell1;have HF1:=hid hf1;clear hf1;have HR1:=hid hr1;clear hr1;have HG1:=hid hg1;clear hg1
        go_quiet (fail)
        go_wp2;go_ret3;exact⟨rfl,(HFR.out.trans HF1.out (fun i hi h=>by rcases h with h|h;omega;have:=HG.out i h.symm;omega)).drewN _⟩
  ·rw[Znv (by omega)]at hb;subst hb;go_wp2;go_ret3;exact⟨rfl,HFR.out⟩
theorem ZqR{o:List UInt8}{k:Nat}{a:UInt8}(h:o.length≤k):(o++[a]).length≤k+1:=by simp;omega
theorem Zqh{o:List UInt8}{k:Nat}{a:UInt8}(h:o.length≤k):(o++[a]).length≤k+2:=by simp;omega
def nm(at_:Nat):List UInt8→Nat→Nat→Nat×Nat×Int
 |[],n,c=>if c=0 then(0,at_,2)else(n,at_+c,0)
 |x::r,n,c=>if 48≤x.toNat∧x.toNat≤57 then(if c=9 then(0,at_,3)else nm at_ r (n*10+(x.toNat-48)) (c+1))else if c=0 then(0,at_,2)else(n,at_+c,0)
theorem Zo2{at_:Nat}{l:List UInt8}{k n c:Nat}(h:l.length≤k):nm at_ (l.drop k) n c=if c=0 then(0,at_,2)else(n,at_+c,0):=by
 rw[List.drop_eq_nil_of_le h];rfl
theorem Zqi{at_:Nat}{l:List UInt8}{k n c:Nat}(h:k<l.length)(hd:¬(48≤l[k].toNat∧l[k].toNat≤57)):nm at_ (l.drop k) n c=if c=0 then(0,at_,2)else(n,at_+c,0):=by
 rw[List.drop_eq_getElem_cons h,nm,if_neg hd]
theorem Znw{at_:Nat}{l:List UInt8}{k n:Nat}(h:k<l.length)(hd:48≤l[k].toNat∧l[k].toNat≤57):nm at_ (l.drop k) n 9=(0,at_,3):=by
 rw[List.drop_eq_getElem_cons h,nm,if_pos hd,if_pos rfl]
theorem Znx{at_:Nat}{l:List UInt8}{k n c:Nat}(h:k<l.length)(hd:48≤l[k].toNat∧l[k].toNat≤57)(hc:c≠9):nm at_ (l.drop k) n c=nm at_ (l.drop (k+1)) (n*10+(l[k].toNat-48)) (c+1):=by
 rw[List.drop_eq_getElem_cons h,nm,if_pos hd,if_neg hc]
theorem Zb2{S:Nat→Prop}{a w:World}(h:Fr S a w)(s:ByteArray)(p:Nat):Fr S a (w.iter s p):=h.alloc _
def ZiU(c:Nat):Nat:=10^c
theorem ZiV(c:Nat):ZiU (c+1)=ZiU c*10:=by unfold ZiU;rw[Nat.pow_succ]
theorem ZlS{c:Nat}(h:c≤9):ZiU c≤1000000000:=by unfold ZiU;exact Nat.le_trans (Nat.pow_le_pow_right (by omega) h) (by omega)
def Zqj(l:List UInt8)(at_:Nat)(F:Nat×Nat×Int)(w:World)(n c:Value)(wr:World):Prop:=
 ∃(m k:Nat),n=.int .i64 m∧c=.int .i64 k∧wr=w.iter ⟨(l.drop at_).toArray⟩ k∧k≤9∧at_+k≤l.length∧m<ZiU k∧nm at_ (l.drop (at_+k)) m k=F
theorem Zc4(l:List UInt8)(at_:Nat)(w:World)(hs:l.length≤100000)(hat:at_≤l.length):
 Calls Tryz.prog 156 #[.string ⟨l.toArray⟩,.int .i64 at_] w fun e w'=>
  e=.returned (.tuple #[.int .i64 (nm at_ (l.drop at_) 0 0).1,.int .i64 (nm at_ (l.drop at_) 0 0).2.1,.int .i64 (nm at_ (l.drop at_) 0 0).2.2])∧Fr nob w w':=by
 obtain⟨F,hF⟩:∃F,nm at_ (l.drop at_) 0 0=F:=⟨_,rfl⟩;rw[hF];have HF:=hid hF;clear hF;have ho:(decide ((at_:Int)<0)||decide ((l.length:Int)<at_))=false:=by simp;omega
 have HO:=hid ho;clear ho;go_enter Tryz.func156,Tryz.ntmps156;go_wp2_with(go_at_call 128;refine(over_any _ _ w (by omega)).mono ?_;rw[HO.out];rintro e w' ⟨rfl,rfl⟩)
 go_loopw [7,8] (fun n c wr=>Zqj l at_ F w n c wr) (fun _ c _=>10-(intOf c).toNat)
 case atStart=>exact⟨0,0,rfl,rfl,rfl,by omega,by omega,by decide,HF.out⟩
 case round=>
  obtain⟨m,k,rfl,rfl,rfl,hk,hle,hm,hb⟩:=hrel;by_cases hlt:at_+k<l.length
  ·have hk2:k<(l.drop at_).length:=by rw[List.length_drop];omega
   have hk3:k<(ByteArray.mk (l.drop at_).toArray).size:=by rw[Zbp];exact hk2
   have hget:(ByteArray.mk (l.drop at_).toArray)[k]'hk3=l[at_+k]:=by rw[Zp6];exact List.getElem_drop
   by_cases hd:48≤l[at_+k].toNat∧l[at_+k].toNat≤57
   ·obtain⟨hd1,hd2⟩:=hd;have hnx:∀ty,(Instr.next (.pointer (some ⟨w.heap.size,0,none⟩)) true ty).run Tryz.prog (w.iter ⟨(l.drop at_).toArray⟩ k)=.ok (.tuple #[.bool true,.int .i64 k,.int .i32 l[at_+k].toNat]) (w.iter ⟨(l.drop at_).toArray⟩ (k+1)):=fun ty=>by
     rw[run_next_ascii w _ k ty hk3 (by rw[hget];omega),hget]
    by_cases hc:k=9
    ·subst hc;rw[Znw hlt ⟨hd1,hd2⟩]at hb;subst hb;clear hk2 hk3 hget hm;go_wp2;go_ret3;exact⟨rfl,Zb2 (Fr.refl _ _) _ _⟩
    ·have hc2:((k:Int)==9)=false:=by simp;omega
     rw[Znx hlt ⟨hd1,hd2⟩ hc]at hb;have hk8:k≤8:=by omega
     have hp:=ZlS hk;have hps:=ZiV k;have HB:=hid hb;have HP:=hid hps;clear hb hk2 hk3 hget hc hps;have hm2:m<1000000000:=by omega
     go_wp2;go_roundw
     case rel=>
      refine⟨m*10+(l[at_+k].toNat-48),k+1,?_,by go_num,rfl,by omega,by omega,by rw[HP.out];omega,HB.out⟩
      go_num
     case measure=>simp[intOf];omega
   ·rw[Zqi hlt hd]at hb;obtain⟨r,p,hr,hnx⟩:∃(r:Int) (p:Nat),(r<48∨57<r)∧∀ty,(Instr.next (.pointer (some ⟨w.heap.size,0,none⟩)) true ty).run Tryz.prog (w.iter ⟨(l.drop at_).toArray⟩ k)=.ok (.tuple #[.bool true,.int .i64 k,.int .i32 r]) (w.iter ⟨(l.drop at_).toArray⟩ p):=by
     by_cases ha:l[at_+k].toNat<128
     ·exact⟨l[at_+k].toNat,k+1,by omega,fun ty=>by rw[run_next_ascii w _ k ty hk3 (by rw[hget];exact ha),hget]⟩
     ·have hh:=decode_high (ByteArray.mk (l.drop at_).toArray) k hk3 (by rw[hget];omega);exact⟨_,_,by omega,fun ty=>run_next_any w _ k ty hk3⟩
    clear hk2 hk3 hget hd hm;by_cases hc:k=0
    ·subst hc;rw[if_pos rfl]at hb;subst hb;rcases hr with hr|hr
     ·go_wp2;go_ret3;exact⟨rfl,Zb2 (Fr.refl _ _) _ _⟩
     ·have hr':48≤r:=by omega
      go_wp2;go_ret3;exact⟨rfl,Zb2 (Fr.refl _ _) _ _⟩
    ·rw[if_neg hc]at hb;subst hb;have hc2:((k:Int)==0)=false:=by simp;omega
     clear hc;rcases hr with hr|hr
     ·go_wp2;go_ret3;exact⟨by simp,Zb2 (Fr.refl _ _) _ _⟩
     ·have hr':48≤r:=by omega
      go_wp2;go_ret3;exact⟨by simp,Zb2 (Fr.refl _ _) _ _⟩
  ·rw[Zo2 (by omega)]at hb;have hnx:∀ty,(Instr.next (.pointer (some ⟨w.heap.size,0,none⟩)) true ty).run Tryz.prog (w.iter ⟨(l.drop at_).toArray⟩ k)=.ok (.tuple #[.bool false]) (w.iter ⟨(l.drop at_).toArray⟩ k):=fun ty=>run_next_end w _ k ty (by rw[Zbp,List.length_drop];omega);clear hm;by_cases hc:k=0
   ·subst hc;rw[if_pos rfl]at hb;subst hb;go_wp2;go_ret3;exact⟨rfl,Zb2 (Fr.refl _ _) _ _⟩
   ·rw[if_neg hc]at hb;subst hb;have hc2:((k:Int)==0)=false:=by simp;omega
    clear hc;go_wp2;go_ret3;exact⟨by simp,Zb2 (Fr.refl _ _) _ _⟩
def ln(l:List UInt8):Nat→Nat→List UInt8→List UInt8×Nat×Int
 |0,_,_=>([],0,0)
 |n+1,k,out=>
  match l[k]? with
  |none=>(out++[10],min (k+1) l.length,0)
  |some c=>
   if c=10 then(out++[10],min (k+1) l.length,0)
   else if c=92 then(match l[k+1]? with|none=>([],k,11)|some x=>ln l n (k+2) (out++[x]))
   else ln l n (k+1) (out++[c])
theorem Zny{l:List UInt8}{n k:Nat}{out:List UInt8}(h:l.length≤k):ln l (n+1) k out=(out++[10],min (k+1) l.length,0):=by rw[ln,List.getElem?_eq_none h]
theorem Zqk{l:List UInt8}{n k:Nat}{out:List UInt8}(h:k<l.length)(e:l[k]=10):ln l (n+1) k out=(out++[10],min (k+1) l.length,0):=by
 rw[ln,List.getElem?_eq_getElem h];simp[e]
theorem Znz{l:List UInt8}{n k:Nat}{out:List UInt8}(h:k<l.length)(e:l[k]=92)(h2:l.length≤k+1):ln l (n+1) k out=([],k,11):=by
 rw[ln,List.getElem?_eq_getElem h,List.getElem?_eq_none h2];simp[e]
theorem Zo3{l:List UInt8}{n k:Nat}{out:List UInt8}(h:k<l.length)(e:l[k]=92)(h2:k+1<l.length):ln l (n+1) k out=ln l n (k+2) (out++[l[k+1]]):=by
 rw[ln,List.getElem?_eq_getElem h,List.getElem?_eq_getElem h2];simp[e]
theorem Zo4{l:List UInt8}{n k:Nat}{out:List UInt8}(h:k<l.length)(e:l[k]≠10)(e2:l[k]≠92):ln l (n+1) k out=ln l n (k+1) (out++[l[k]]):=by
 rw[ln,List.getElem?_eq_getElem h];simp only;rw[if_neg e,if_neg e2]
def Zql(l:List UInt8)(F:List UInt8×Nat×Int)(w:World)(n:Nat)(at_:Value)(wr:World):Prop:=
 ∃(k:Nat) (out:List UInt8) (g:Option Nat),at_=.int .i64 k∧l.length<n+k∧k≤l.length∧out.length≤k∧Bb w.heap.size out g wr∧Fr nob w wr∧(∀j,g=some j→w.heap.size≤j)∧ln l n k out=F
theorem ZjU(l:List UInt8)(at_:Nat)(w:World)(hs:l.length≤100000)(hat:at_≤l.length):
 Calls Tryz.prog 117 #[.string ⟨l.toArray⟩,.int .i64 at_] w fun e w'=>
  e=.returned (.tuple #[.string ⟨(ln l (l.length+1) at_ []).1.toArray⟩,.int .i64 (ln l (l.length+1) at_ []).2.1,.int .i64 (ln l (l.length+1) at_ []).2.2])∧Fr nob w w':=by
 obtain⟨F,hF⟩:∃F,ln l (l.length+1) at_ []=F:=⟨_,rfl⟩;rw[hF];have HF:=hid hF;clear hF;have ho:(decide ((at_:Int)<0)||decide ((l.length:Int)<at_))=false:=by simp;omega
 have HO:=hid ho;clear ho;go_enter Tryz.func117,Tryz.ntmps117;go_wp2_with(go_at_call 128;refine(over_any _ _ w (by omega)).mono ?_;rw[HO.out];rintro e w' ⟨rfl,rfl⟩)
 go_loopg [1] (l.length+1) (fun n a wr=>Zql l F w n a wr)
 case atStart=>exact⟨at_,[],none,rfl,by omega,hat,Nat.zero_le _,Bb.new _,(Fr.refl _ _).alloc _,fun _ h=>(by cases h),HF.out⟩
 case round=>
  obtain⟨k,out,g,rfl,hn,hk,hout,hr,hfr,hg,hb⟩:=hrel;obtain⟨m,rfl⟩:∃m,gk=m+1:=⟨gk-1,by omega⟩;have HR:=hid hr;clear hr;have HFR:=hid hfr;clear hfr;have HG:=hid hg;clear hg;by_cases hlt:k<l.length
  ·by_cases h10:l[k]=10
   ·rw[Zqk hlt h10]at hb;subst hb;have t1:((l[k].toNat:Int) !=10)=false:=tn_eq (b:=10) h10;clear h10;go_wp2_with fail;refine(bb_writeByte _ out 10 g _ (by omega) HR.out (by omega)).mono ?_;rintro e w1 ⟨rfl,g1,h1,hf1,hg1⟩;have HB1:=hid h1;have HF1:=hid (ZcJ (g':=none) (Nat.le_refl _) HFR.out HG.out hf1);have HG1:=hid (ZdV HFR.out HG.out hg1);clear h1 hf1 hg1;go_wp2_with fail;refine(bb_string _ _ g1 _ HB1.out).mono ?_;rintro e w2 ⟨rfl,hf2⟩;have HF2:=hid hf2;clear hf2;go_wp2;go_ret3;exact⟨by simp;try omega,HF1.out.trans HF2.out (fun i hi h=>by have:=HG1.out i h.symm;omega)⟩
   ·have t1:((l[k].toNat:Int) !=10)=true:=ZoW (b:=10) h10;by_cases h92:l[k]=92
    ·have t2:((l[k].toNat:Int)==92)=true:=by rw[h92];rfl
     by_cases hend:k+1<l.length
     ·rw[Zo3 hlt h92 hend]at hb;have t3:((k:Int)+1==l.length)=false:=by simp;omega
      have hbd:=Zcf l[k+1];have hbk:=hid (ZaY l[k+1]);have HB:=hid hb;clear hb h92 h10;have hlt':(k:Int)+1<l.length:=by omega
      go_wp2_with fail;refine(bb_writeByte _ out _ g _ hbd HR.out (by omega)).mono ?_;rintro e w1 ⟨rfl,g1,h1,hf1,hg1⟩;rw[hbk.out]at h1;go_wp2;go_roundg m
      case measure=>omega
      case rel=>exact⟨k+2,_,g1,by go_num,by omega,by omega,Zqh hout,h1,ZcJ (g':=none) (Nat.le_refl _) HFR.out HG.out hf1,ZdV HFR.out HG.out hg1,HB.out⟩
     ·rw[Znz hlt h92 (by omega)]at hb;subst hb;have t3:((k:Int)+1==l.length)=true:=by simp;omega
      clear h10 h92;go_wp2;go_ret3;exact⟨by simp,HFR.out⟩
    ·have t2:((l[k].toNat:Int)==92)=false:=Zn h92;rw[Zo4 hlt h10 h92]at hb;have hbd:=Zcf l[k];have hbk:=hid (ZaY l[k]);have HB:=hid hb;clear hb h92 h10;go_wp2_with fail;refine(bb_writeByte _ out _ g _ hbd HR.out (by omega)).mono ?_;rintro e w1 ⟨rfl,g1,h1,hf1,hg1⟩;rw[hbk.out]at h1;go_wp2;go_roundg m
     case measure=>omega
     case rel=>exact⟨k+1,_,g1,by go_num,by omega,by omega,ZqR hout,h1,ZcJ (g':=none) (Nat.le_refl _) HFR.out HG.out hf1,ZdV HFR.out HG.out hg1,HB.out⟩
  ·rw[Zny (by omega)]at hb;subst hb;go_wp2_with fail;refine(bb_writeByte _ out 10 g _ (by omega) HR.out (by omega)).mono ?_;rintro e w1 ⟨rfl,g1,h1,hf1,hg1⟩;have HB1:=hid h1;have HF1:=hid (ZcJ (g':=none) (Nat.le_refl _) HFR.out HG.out hf1);have HG1:=hid (ZdV HFR.out HG.out hg1);clear h1 hf1 hg1;go_wp2_with fail;refine(bb_string _ _ g1 _ HB1.out).mono ?_;rintro e w2 ⟨rfl,hf2⟩;have HF2:=hid hf2;clear hf2;go_wp2;go_ret3;exact⟨by simp;try omega,HF1.out.trans HF2.out (fun i hi h=>by have:=HG1.out i h.symm;omega)⟩
def lenOf:Value→Nat
 | .string b=>b.size
 |_=>0
def tl(l cs:List UInt8):List UInt8:=l.dropWhile (cs.contains ·)
def tr(l cs:List UInt8):List UInt8:=(l.reverse.dropWhile (cs.contains ·)).reverse
theorem Zo5{m cs:List UInt8}(h:¬0<m.length):tl m cs=m:=by
 cases m with
 |nil=>rfl
 |cons _ _=>simp at h
theorem Zo6{m cs:List UInt8}(h:0<m.length)(e:cs.contains m[0]=true):tl m cs=tl (m.drop 1) cs:=by
 cases m with
 |nil=>simp at h
 |cons x r=>simp only[List.getElem_cons_zero]at e;simp only[tl,List.dropWhile_cons,e,if_true,List.drop_succ_cons,List.drop_zero]
theorem Zqm{m cs:List UInt8}(h:0<m.length)(e:cs.contains m[0]=false):tl m cs=m:=by
 cases m with
 |nil=>simp at h
 |cons x r=>simp only[List.getElem_cons_zero]at e;simp only[tl,List.dropWhile_cons,e];rfl
theorem Zo7(m cs:List UInt8):(tr m cs).length≤m.length:=by
 unfold tr;rw[List.length_reverse];exact Nat.le_trans (List.dropWhile_sublist _).length_le (by rw[List.length_reverse];exact Nat.le_refl _)
theorem ZfF{m:List UInt8}{k:Nat}(h:m.length=k+1):m.take k++[m[k]'(by omega)]=m:=by
 rw[List.take_append_getElem];exact List.take_of_length_le (by omega)
theorem Zo8{m cs:List UInt8}(h:¬0<m.length):tr m cs=m:=by
 cases m with
 |nil=>rfl
 |cons _ _=>simp at h
theorem Zo9{m cs:List UInt8}{k:Nat}(h:m.length=k+1)(e:cs.contains (m[k]'(by omega))=true):tr m cs=tr (m.take k) cs:=by
 have:=ZfF h;unfold tr
 conv=>lhs;rw[←this]
 rw[List.reverse_append,List.reverse_singleton,List.singleton_append,List.dropWhile_cons,if_pos e]
theorem Zqn{m cs:List UInt8}{k:Nat}(h:m.length=k+1)(e:cs.contains (m[k]'(by omega))=false):tr m cs=m:=by
 have:=ZfF h;unfold tr
 conv=>lhs;rw[←this]
 rw[List.reverse_append,List.reverse_singleton,List.singleton_append,List.dropWhile_cons,if_neg (by rw[e];decide)];rw[List.reverse_cons,List.reverse_reverse,this]
theorem Zbq(l cs:List UInt8)(b:Nat)(w:World)(hl:l.length≤1000000)(hc:∀x:UInt8,w.cell? ⟨b,x.toNat,none⟩=some (.bool (cs.contains x))):
 Calls Tryz.prog 159 #[.string ⟨l.toArray⟩,.pointer (some ⟨b,0,none⟩)] w fun e w'=>e=.returned (.string ⟨(tl l cs).toArray⟩)∧w=w':=by
 obtain⟨F,hF⟩:∃F,tl l cs=F:=⟨_,rfl⟩;rw[hF];have HF:=hid hF;clear hF;have HC:=hid hc;clear hc;go_enter Tryz.func159,Tryz.ntmps159;go_wp2
 go_loop [0] (fun s=>∃m:List UInt8,m.length≤1000000∧s=.string ⟨m.toArray⟩∧tl m cs=F) (fun s=>lenOf s)
 case atStart=>exact⟨l,hl,rfl,HF.out⟩
 case round=>
  obtain⟨m,hm,rfl,hF⟩:=hrel;by_cases h:0<m.length
  ·obtain⟨x,hx⟩:∃x,m[0]=x:=⟨_,rfl⟩;cases hin:cs.contains x with
   |true=>
    rw[Zo6 h (by rw[hx];exact hin)]at hF;have HX:=hid hF;clear hF;have hcx:=HC.out x;rw[hin]at hcx;go_wp2_with(go_at_call 153;refine(Tryz.asciiSet_contains _ x _ _ hcx).mono ?_;rintro e w' ⟨rfl,rfl⟩)
    go_round
    case measure=>simp[lenOf,Zbp];omega
    case rel=>exact⟨m.drop 1,by simp;omega,by rw[List.drop_one],HX.out⟩
   |false=>
    rw[Zqm h (by rw[hx];exact hin)]at hF;subst hF;have hcx:=HC.out x;rw[hin]at hcx;go_wp2_with(go_at_call 153;refine(Tryz.asciiSet_contains _ x _ _ hcx).mono ?_;rintro e w' ⟨rfl,rfl⟩);go_ret;exact⟨rfl,rfl⟩
  ·rw[Zo5 h]at hF;subst hF;go_wp2;go_ret;exact⟨rfl,rfl⟩
theorem ZcL(l cs:List UInt8)(b:Nat)(w:World)(hl:l.length≤1000000)(hc:∀x:UInt8,w.cell? ⟨b,x.toNat,none⟩=some (.bool (cs.contains x))):
 Calls Tryz.prog 181 #[.string ⟨l.toArray⟩,.pointer (some ⟨b,0,none⟩)] w fun e w'=>e=.returned (.string ⟨(tr l cs).toArray⟩)∧w=w':=by
 obtain⟨F,hF⟩:∃F,tr l cs=F:=⟨_,rfl⟩;rw[hF];have HF:=hid hF;clear hF;have HC:=hid hc;clear hc;go_enter Tryz.func181,Tryz.ntmps181;go_wp2
 go_loop [0] (fun s=>∃m:List UInt8,m.length≤1000000∧s=.string ⟨m.toArray⟩∧tr m cs=F) (fun s=>lenOf s)
 case atStart=>exact⟨l,hl,rfl,HF.out⟩
 case round=>
  obtain⟨m,hm,rfl,hF⟩:=hrel;by_cases h:0<m.length
  ·obtain⟨k,hk⟩:∃k,m.length=k+1:=⟨m.length-1,by omega⟩;obtain⟨x,hx⟩:∃x,m[k]=x:=⟨_,rfl⟩;have hxs:(ByteArray.mk m.toArray).extract 0 k=⟨(m.take k).toArray⟩:=by rw[Zm8];simp
   cases hin:cs.contains x with
   |true=>
    rw[Zo9 hk (by rw[hx];exact hin)]at hF;have HX:=hid hF;clear hF;have hcx:=HC.out x;rw[hin]at hcx;go_wp2_with(go_at_call 153;refine(Tryz.asciiSet_contains _ x _ _ hcx).mono ?_;rintro e w' ⟨rfl,rfl⟩)
    go_round
    case measure=>simp[lenOf,Zbp];omega
    case rel=>exact⟨m.take k,by simp;omega,rfl,HX.out⟩
   |false=>
    rw[Zqn hk (by rw[hx];exact hin)]at hF;subst hF;have hcx:=HC.out x;rw[hin]at hcx;go_wp2_with(go_at_call 153;refine(Tryz.asciiSet_contains _ x _ _ hcx).mono ?_;rintro e w' ⟨rfl,rfl⟩);go_ret;exact⟨rfl,rfl⟩
  ·rw[Zo8 h]at hF;subst hF;go_wp2;go_ret;exact⟨rfl,rfl⟩
theorem Zpa:(zeroValue 234).run Tryz.prog=fun w=>.ok (.agg (Array.replicate 256 (.bool false))) w:=by
 funext w;exact(zero_of_info (P:=Tryz.prog) (n:=256) (by kernel_rfl)).1 w
def ZbJ(cs:List UInt8)(w:World):World:=(w.alloc (.cells (Lib.setCells cs) 234)).alloc (.cells (Lib.setCells cs) 234)
theorem Zc5(cs:List UInt8)(w:World):Fr nob w (ZbJ cs w):=((Fr.refl _ _).alloc _).alloc _
theorem Zc6(cs:List UInt8)(w:World)(x:UInt8):(ZbJ cs w).cell? ⟨w.heap.size+1,x.toNat,none⟩=some (.bool (cs.contains x)):=by
 unfold ZbJ;rw[World.cell?_alloc_at _ _ _ _ (by simp),Lib.setCells_at]
theorem ZcM(cs:List UInt8)(w:World):(storeCells ⟨w.heap.size+1,0,none⟩ (Lib.setCells cs).toList 0).run Tryz.prog ((w.alloc (.cells (Lib.setCells cs) 234)).alloc (.cells (Array.replicate 256 (.bool false)) 234))=.ok () (ZbJ cs w):=by
 have:=run_storeCells_new (P:=Tryz.prog) (w.alloc (.cells (Lib.setCells cs) 234)) 234 (Array.replicate 256 (.bool false)) (Lib.setCells cs) (by rw[Lib.setCells_size];kernel_rfl) (by rw[Lib.setCells_size,Array.size_replicate]) (Lib.setCells_one _);unfold ZbJ;simpa using this
theorem ZfG(l:List UInt8)(c d:UInt8)(cs:List UInt8)(w:World)(hl:l.length≤1000000)(hcs:cs.length≤1000)(ha:∀(j:Nat) b,(c::d::cs)[j]? =some b→b.toNat<128):
 Calls Tryz.prog 129 #[.string ⟨l.toArray⟩,.string ⟨(c::d::cs).toArray⟩] w fun e w'=>e=.returned (.string ⟨(tl l (c::d::cs)).toArray⟩)∧Fr nob w w':=by
 have hM:=Tryz.strings_makeASCIISet (fun w=>by rw[Zpa]) ⟨(c::d::cs).toArray⟩ w (by rw[Zbp];simp;omega) (by simpa using ha);clear ha;obtain⟨CS,hCS⟩:∃CS,c::d::cs=CS:=⟨_,rfl⟩;have hn:∃n,CS.length=n+2:=⟨cs.length,by rw[←hCS];rfl⟩;rw[hCS]at hM⊢;clear hCS;have hS:=ZcM CS w;obtain⟨n,hn⟩:=hn;have hn1:((CS.length:Int)==1)=false:=beq_eq_false_iff_ne.2 (by omega);have hemp:CS.isEmpty=false:=by cases CS with|nil=>simp at hn|cons _ _=>rfl
 go_enter Tryz.func129,Tryz.ntmps129;cases l with
 |nil=>
  go_wp2;go_ret;exact⟨rfl,Fr.refl _ _⟩
 |cons x r=>
  obtain⟨L,hL⟩:∃L,x::r=L:=⟨_,rfl⟩;have hne:L.isEmpty=false:=by rw[←hL];rfl
  rw[hL]at hl⊢;clear hL;have hT:=Zbq L CS (w.heap.size+1) (ZbJ CS w) hl (Zc6 CS w);have hsz:=Lib.setCells_size CS;go_wp2_with(go_at_call 152;refine hM.mono ?_;rintro e w' ⟨rfl,hw⟩;rw[hw])
  first
   |(rw[Zpa];simp only[Result.andThen])
   |(rw[show Tryz.zeroCells234=Array.replicate 256 (.bool false)from by kernel_rfl,hS];simp only[Result.andThen])
  go_wp2_with(go_at_call 159;refine hT.mono ?_;rintro e w' ⟨rfl,rfl⟩);go_ret;exact⟨rfl,Zc5 _ _⟩
theorem ZlT(l:List UInt8)(c d:UInt8)(cs:List UInt8)(w:World)(hl:l.length≤1000000)(hcs:cs.length≤1000)(ha:∀(j:Nat) b,(c::d::cs)[j]? =some b→b.toNat<128):
 Calls Tryz.prog 149 #[.string ⟨l.toArray⟩,.string ⟨(c::d::cs).toArray⟩] w fun e w'=>e=.returned (.string ⟨(tl (tr l (c::d::cs)) (c::d::cs)).toArray⟩)∧Fr nob w w':=by
 have hM:=Tryz.strings_makeASCIISet (fun w=>by rw[Zpa]) ⟨(c::d::cs).toArray⟩ w (by rw[Zbp];simp;omega) (by simpa using ha);clear ha;obtain⟨CS,hCS⟩:∃CS,c::d::cs=CS:=⟨_,rfl⟩;have hn:∃n,CS.length=n+2:=⟨cs.length,by rw[←hCS];rfl⟩;rw[hCS]at hM⊢;clear hCS;have hS:=ZcM CS w;obtain⟨n,hn⟩:=hn;have hn1:((CS.length:Int)==1)=false:=beq_eq_false_iff_ne.2 (by omega);have hemp:CS.isEmpty=false:=by cases CS with|nil=>simp at hn|cons _ _=>rfl
 go_enter Tryz.func149,Tryz.ntmps149;cases l with
 |nil=>
  go_wp2;go_ret;exact⟨rfl,Fr.refl _ _⟩
 |cons x r=>
  obtain⟨L,hL⟩:∃L,x::r=L:=⟨_,rfl⟩;have hne:L.isEmpty=false:=by rw[←hL];rfl
  rw[hL]at hl⊢;clear hL;have htl:(tr L CS).length≤1000000:=Nat.le_trans (Zo7 L CS) hl;have hT:=ZcL L CS (w.heap.size+1) (ZbJ CS w) hl (Zc6 CS w);have hT2:=Zbq (tr L CS) CS (w.heap.size+1) (ZbJ CS w) htl (Zc6 CS w);obtain⟨W,hW⟩:∃W,ZbJ CS w=W:=⟨_,rfl⟩;have hF:=Zc5 CS w;rw[hW]at hT hT2 hS hF;have HF:=hid hF;clear hF hW;have hsz:=Lib.setCells_size CS;go_wp2_with(go_at_call 152;refine hM.mono ?_;rintro e w' ⟨rfl,hw⟩;rw[hw])
  first
   |(rw[Zpa];simp only[Result.andThen])
   |(rw[show Tryz.zeroCells234=Array.replicate 256 (.bool false)from by kernel_rfl,hS];simp only[Result.andThen])
  go_wp2_with(first|(go_at_call 181;refine hT.mono ?_;rintro e w2 ⟨rfl,rfl⟩)|(go_at_call 159;refine hT2.mono ?_;rintro e w2 ⟨rfl,rfl⟩));go_ret;exact⟨rfl,HF.out⟩
end Go.Proofs.YtkfddjopbocpkaaGreatDoor
