/- Lemmas of this claim. -/
import Derived.Lib.Bytealg
import Derived.Test.YtkfddjopbocpkaaGreatDoorN01
set_option linter.unusedVariables false
set_option linter.unusedSimpArgs false
set_option maxRecDepth 100000
set_option maxHeartbeats 4000000
namespace Go.Proofs.YtkfddjopbocpkaaGreatDoor
open Go.RowKit
theorem Zbp(l:List UInt8):(ByteArray.mk l.toArray).size=l.length:=by simp[ByteArray.size]
theorem Zp6(l:List UInt8)(i:Nat)(h:i<(ByteArray.mk l.toArray).size):(ByteArray.mk l.toArray)[i]'h=l[i]'(by rw[Zbp]at h;exact h):=rfl
theorem Zm8(l:List UInt8)(a b:Nat):(ByteArray.mk l.toArray).extract a b=⟨((l.drop a).take (b-a)).toArray⟩:=by
 apply ByteArray.ext;rw[ByteArray.data_extract];apply Array.ext';simp[List.extract_eq_take_drop]
theorem ZqQ(l m:List UInt8):(ByteArray.mk l.toArray)++(ByteArray.mk m.toArray)=⟨(l++m).toArray⟩:=by
 apply ByteArray.ext;simp
theorem ZoV(l:List UInt8)(a:Nat):(ByteArray.mk l.toArray).extract a l.length=⟨(l.drop a).toArray⟩:=by
 rw[Zm8,List.take_of_length_le (by simp)]
attribute [go_sem] Zp6 ZqQ ZoV
theorem Zaf{P:Program}{t:TypeId}(l:List UInt8){lo hi:Int}(h:P.underlying t=some .string)(h0:0≤lo)(h1:lo≤hi)(h2:hi≤l.length)(w:World):
 (Instr.slice t (.string ⟨l.toArray⟩) (some (.int .i64 lo)) (some (.int .i64 hi)) none).run P w=.ok (.string ⟨((l.drop lo.toNat).take (hi.toNat-lo.toNat)).toArray⟩) w:=by
 rw[run_slice_string (P:=P) w t (ByteArray.mk l.toArray) .i64 .i64 lo hi h h0 h1 (by rw[Zbp];exact h2),Zm8]
theorem Zcy{a b:UInt8}(h:a=b):(((a.toNat:Int))==(b.toNat:Int))=true:=by rw[h];simp
theorem Zn{a b:UInt8}(h:a≠b):(((a.toNat:Int))==(b.toNat:Int))=false:=by
 rw[beq_eq_false_iff_ne];intro e;exact h (UInt8.toNat.inj (Int.ofNat.inj e))
theorem tn_eq{a b:UInt8}(h:a=b):(((a.toNat:Int)) !=(b.toNat:Int))=false:=by rw[bne,Zcy h];rfl
theorem ZoW{a b:UInt8}(h:a≠b):(((a.toNat:Int)) !=(b.toNat:Int))=true:=by rw[bne,Zn h];rfl
theorem ZoX{c d:UInt8}{rx:Bool}(h:c=d)(hn:¬(c=d∧rx=true)):rx=false:=by cases rx<;>simp_all
theorem Zcf(a:UInt8):(0:Int)≤a.toNat∧(a.toNat:Int)≤255:=by have:=a.toNat_lt;omega
theorem ZaY(a:UInt8):((a.toNat:Int)).toNat.toUInt8=a:=by simp
theorem Zia{l:List UInt8}{k:Nat}(h:k<l.length):(l.drop k).take 1=[l[k]]:=by
 rw[List.drop_eq_getElem_cons h];rfl
theorem ZbH{P:Program}{t:TypeId}(l:List UInt8){k:Nat}{lo hi:Int}(h:P.underlying t=some .string)(hk:k<l.length)(h0:lo=k)(h1:hi=k+1)(w:World):
 (Instr.slice t (.string ⟨l.toArray⟩) (some (.int .i64 lo)) (some (.int .i64 hi)) none).run P w=.ok (.string ⟨[l[k]].toArray⟩) w:=by
 subst h0;subst h1;rw[Zaf l h (by omega) (by omega) (by omega),←Zia hk];simp
theorem ZdX{l p:List UInt8}(h:p.length≤l.length):(l.take p.length==p)=p.isPrefixOf l:=by
 rw[Bool.eq_iff_iff,beq_iff_eq,List.isPrefixOf_iff_prefix,List.prefix_iff_eq_take];exact eq_comm
theorem ZdY{l p:List UInt8}(h:¬p.length≤l.length):false=p.isPrefixOf l:=by
 symm;rw[Bool.eq_false_iff];intro e;rw[List.isPrefixOf_iff_prefix]at e
 exact h e.length_le
def nxt(l:List UInt8)(c:UInt8)(k:Nat):Nat:=k+(l.drop k).idxOf c
theorem ZoY{l:List UInt8}{c:UInt8}{k:Nat}(h:k≤l.length):nxt l c k≤l.length:=by
 have:=List.idxOf_le_length (a:=c) (l:=l.drop k);simp[nxt]at *;omega
def adv(l:List UInt8)(c:UInt8)(k:Nat):Nat:=if l[k]? =some c then k+1 else k
theorem ZjP{l:List UInt8}{k:Nat}{c:UInt8}(h:k≤l.length):adv l c k≤l.length:=by
 unfold adv;split
 ·next e=>have:=(List.getElem?_eq_some_iff.1 e).1;omega
 ·exact h
def brE(l:List UInt8)(at_:Nat):Nat:=min (nxt l 93 (adv l 93 (adv l 94 (at_+1)))+1) l.length
theorem ZlH{l:List UInt8}{c:UInt8}{k:Nat}:([c].isPrefixOf (l.drop k)=true)↔l[k]? =some c:=by
 rw[←List.head?_drop];generalize l.drop k=m;cases m with
 |nil=>simp[List.isPrefixOf]
 |cons x m=>simp only[List.isPrefixOf,Bool.and_true,beq_iff_eq,List.head?_cons,Option.some.injEq];exact eq_comm
theorem Zm9{l:List UInt8}{c:UInt8}{k:Nat}(e:[c].isPrefixOf (l.drop k)=true):adv l c k=k+1:=if_pos (ZlH.1 e)
theorem Zna{l:List UInt8}{c:UInt8}{k:Nat}(e:[c].isPrefixOf (l.drop k)=false):adv l c k=k:=if_neg (fun h=>by rw[ZlH.2 h]at e;cases e)
theorem Znb{l:List UInt8}{c:UInt8}{k:Nat}:k≤nxt l c k:=by unfold nxt;omega
theorem ZbI(l:List UInt8)(c:UInt8):Lib.indexByte l c=if l.idxOf c<l.length then(l.idxOf c:Int)else -1:=by
 induction l with
 |nil=>simp[Lib.indexByte]
 |cons b l ih=>
  rw[Lib.indexByte,List.idxOf_cons];by_cases h:(b==c)=true
  ·simp[h]
  ·rw[if_neg h,ih];simp only[h,Bool.false_eq_true,if_false,cond_false,List.length_cons];have:=List.idxOf_le_length (a:=c) (l:=l);by_cases h2:l.idxOf c<l.length
   ·rw[if_pos h2,if_neg (by simp),if_pos (by omega)];omega
   ·rw[if_neg h2,if_pos (by rfl),if_neg (by omega)]
theorem Zb1(l:List UInt8)(c:UInt8): -1≤Lib.indexByte l c∧Lib.indexByte l c≤l.length:=by
 rw[ZbI];have:=List.idxOf_le_length (a:=c) (l:=l);split<;>omega
theorem ZeX{l:List UInt8}{c:UInt8}{k:Nat}(h:k≤l.length):Lib.indexByte (l.drop k) c=if nxt l c k<l.length then(nxt l c k:Int)-k else -1:=by
 rw[ZbI];unfold nxt;have:=List.idxOf_le_length (a:=c) (l:=l.drop k);simp only[List.length_drop]at *;by_cases h2:(l.drop k).idxOf c<l.length-k
 ·rw[if_pos h2,if_pos (by omega)];omega
 ·rw[if_neg h2,if_neg (by omega)]
theorem Znc{l:List UInt8}{c:UInt8}{k:Nat}:k≤adv l c k:=by unfold adv;split<;>omega
theorem Zib{l:List UInt8}{c:UInt8}{a k:Nat}:a+adv (l.drop a) c k=adv l c (a+k):=by
 unfold adv;rw[List.getElem?_drop];split<;>omega
theorem ZlQ{l:List UInt8}{c:UInt8}{a k:Nat}:a+nxt (l.drop a) c k=nxt l c (a+k):=by
 unfold nxt;rw[List.drop_drop];omega
theorem ZdD{l:List UInt8}{a:Nat}(h:a≤l.length):a+brE (l.drop a) 0=brE l a:=by
 unfold brE;rw[←Zib (l:=l) (c:=94) (a:=a) (k:=1),←Zib (l:=l) (c:=93) (a:=a),←ZlQ (l:=l) (c:=93) (a:=a)];simp only[List.length_drop,Nat.zero_add];omega
theorem ZjQ(bs:List UInt8):∀s:ByteArray,(bs.map fun b=>(b.toNat:Int)).foldl (fun(r:ByteArray) n=>r.push (UInt8.ofNat n.toNat)) s=⟨s.data++bs.toArray⟩:=by
 induction bs with
 |nil=>intro s;apply ByteArray.ext;simp
 |cons b bs ih=>
  intro s;rw[List.map_cons,List.foldl_cons,ih];apply ByteArray.ext;show(s.data.push _)++bs.toArray=_;simp
theorem run_conv_bytes{P:Program}{src dst e:TypeId}(hs:P.underlying src=some (.slice e))(he:P.underlying e=some (.int .u8))(hd:P.underlying dst=some .string)(a:Addr)(cap:Nat)(bs:List UInt8)(W:World)
 (hc:∀j v,(bcells bs)[j]? =some v→W.cell? (a.add j)=some v):
 (convert src dst (.slice (some a) bs.length cap)).run P W=.ok (.string ⟨bs.toArray⟩) W:=by
 have hl:=run_loadCells_list (P:=P) W a (bcells bs) hc;rw[ZbF]at hl;rw[run_convert_bytes_string _ src dst e _ _ _ hs he hd,run_bytesToString (ns:=bs.map fun b=>(b.toNat:Int)),ZjQ]
 ·show Result.ok (Value.string ⟨(#[]:Array UInt8)++bs.toArray⟩) W=_;simp
 ·rw[hl];simp[bcells,ZeT,List.map_map,Function.comp_def]
theorem ZwK{P:Program}{src dst e:TypeId}(hs:P.underlying src=some (.slice e))(he:P.underlying e=some (.int .u8))(hd:P.underlying dst=some .string)(d:UInt8)(W:World):
 (convert src dst (.slice (some ⟨W.heap.size,0,none⟩) 1 1)).run P (W.alloc (.cells #[.int .u8 d.toNat] e))=.ok (.string ⟨#[d]⟩) (W.alloc (.cells #[.int .u8 d.toNat] e)):=by
 refine run_conv_bytes hs he hd _ 1 [d] _ ?_;intro j v hj
 match j,hj with
 |0,hj=>simp[bcells,ZeT]at hj;subst hj;simp[Addr.add,World.cell?_alloc_new]
theorem Zdp{P:Program}{src dst e:TypeId}(hs:P.underlying src=some (.slice e))(he:P.underlying e=some (.int .u8))(hd:P.underlying dst=some .string)(d d':UInt8)(W:World):
 (convert src dst (.slice (some ⟨W.heap.size,0,none⟩) 2 2)).run P (W.alloc (.cells #[.int .u8 d.toNat,.int .u8 d'.toNat] e))=.ok (.string ⟨#[d,d']⟩) (W.alloc (.cells #[.int .u8 d.toNat,.int .u8 d'.toNat] e)):=by
 refine run_conv_bytes hs he hd _ 2 [d,d'] _ ?_;intro j v hj
 match j,hj with
 |0,hj=>simp[bcells,ZeT]at hj;subst hj;simp[Addr.add,World.cell?_alloc_new]
 |1,hj=>simp[bcells,ZeT]at hj;subst hj;simp[Addr.add,World.cell?_alloc_new]
end Go.Proofs.YtkfddjopbocpkaaGreatDoor
