/-
  Merged texts of this claim: Bytes, Narrow, BldRune, OctetW, OctetX, PieceA, PieceB, PieceC, PieceD, PieceE, PieceF.
-/
import Derived.Lib.Bytealg
import Derived.Laws.RangeAny
import Derived.Lib.OthersKept
import Derived.Deep.LoopGhost
import Derived.StillTailTactics
import Derived.Deep.RegionWith
import Derived.Deep.RegionHeld3
import Derived.Test.YtkfddjopbocpkaaGreatDoorM01
set_option linter.unusedVariables false
set_option linter.unusedSimpArgs false
set_option maxRecDepth 100000
set_option maxHeartbeats 4000000
namespace Go.Proofs.YtkfddjopbocpkaaGreatDoor
open Go.RowKit
theorem Zbx(l:List UInt8):(ByteArray.mk l.toArray).size=l.length:=by simp[ByteArray.size]
theorem ZmY(l:List UInt8)(i:Nat)(h:i<(ByteArray.mk l.toArray).size):(ByteArray.mk l.toArray)[i]'h=l[i]'(by rw[Zbx]at h;exact h):=rfl
theorem ZkX(l:List UInt8)(a b:Nat):(ByteArray.mk l.toArray).extract a b=⟨((l.drop a).take (b-a)).toArray⟩:=by
 apply ByteArray.ext;rw[ByteArray.data_extract];apply Array.ext';simp[List.extract_eq_take_drop]
theorem ZnE(l m:List UInt8):(ByteArray.mk l.toArray)++(ByteArray.mk m.toArray)=⟨(l++m).toArray⟩:=by
 apply ByteArray.ext;simp
theorem ZlX(l:List UInt8)(a:Nat):(ByteArray.mk l.toArray).extract a l.length=⟨(l.drop a).toArray⟩:=by
 rw[ZkX,List.take_of_length_le (by simp)]
attribute [go_sem] ZmY ZnE ZlX
theorem Zaa{P:Program}{t:TypeId}(l:List UInt8){lo hi:Int}(h:P.underlying t=some .string)(h0:0≤lo)(h1:lo≤hi)(h2:hi≤l.length)(w:World):
 (Instr.slice t (.string ⟨l.toArray⟩) (some (.int .i64 lo)) (some (.int .i64 hi)) none).run P w=.ok (.string ⟨((l.drop lo.toNat).take (hi.toNat-lo.toNat)).toArray⟩) w:=by
 rw[run_slice_string (P:=P) w t (ByteArray.mk l.toArray) .i64 .i64 lo hi h h0 h1 (by rw[Zbx];exact h2),ZkX]
theorem Zfm{a b:UInt8}(h:a=b):(((a.toNat:Int))==(b.toNat:Int))=true:=by rw[h];simp
theorem ZG{a b:UInt8}(h:a≠b):(((a.toNat:Int))==(b.toNat:Int))=false:=by
 rw[beq_eq_false_iff_ne];intro e;exact h (UInt8.toNat.inj (Int.ofNat.inj e))
theorem tn_eq{a b:UInt8}(h:a=b):(((a.toNat:Int)) !=(b.toNat:Int))=false:=by rw[bne,Zfm h];rfl
theorem ZlY{a b:UInt8}(h:a≠b):(((a.toNat:Int)) !=(b.toNat:Int))=true:=by rw[bne,ZG h];rfl
theorem ZlZ{c d:UInt8}{rx:Bool}(h:c=d)(hn:¬(c=d∧rx=true)):rx=false:=by cases rx<;>simp_all
theorem Zb1(a:UInt8):(0:Int)≤a.toNat∧(a.toNat:Int)≤255:=by have:=a.toNat_lt;omega
theorem ZaI(a:UInt8):((a.toNat:Int)).toNat.toUInt8=a:=by simp
theorem Zgw{l:List UInt8}{k:Nat}(h:k<l.length):(l.drop k).take 1=[l[k]]:=by
 rw[List.drop_eq_getElem_cons h];rfl
theorem Zbh{P:Program}{t:TypeId}(l:List UInt8){k:Nat}{lo hi:Int}(h:P.underlying t=some .string)(hk:k<l.length)(h0:lo=k)(h1:hi=k+1)(w:World):
 (Instr.slice t (.string ⟨l.toArray⟩) (some (.int .i64 lo)) (some (.int .i64 hi)) none).run P w=.ok (.string ⟨[l[k]].toArray⟩) w:=by
 subst h0;subst h1;rw[Zaa l h (by omega) (by omega) (by omega),←Zgw hk];simp
theorem Zc1{l p:List UInt8}(h:p.length≤l.length):(l.take p.length==p)=p.isPrefixOf l:=by
 rw[Bool.eq_iff_iff,beq_iff_eq,List.isPrefixOf_iff_prefix,List.prefix_iff_eq_take];exact eq_comm
theorem Zc2{l p:List UInt8}(h:¬p.length≤l.length):false=p.isPrefixOf l:=by
 symm;rw[Bool.eq_false_iff];intro e;rw[List.isPrefixOf_iff_prefix]at e
 exact h e.length_le
def nxt(l:List UInt8)(c:UInt8)(k:Nat):Nat:=k+(l.drop k).idxOf c
theorem Zl0{l:List UInt8}{c:UInt8}{k:Nat}(h:k≤l.length):nxt l c k≤l.length:=by
 have:=List.idxOf_le_length (a:=c) (l:=l.drop k);simp[nxt]at *;omega
def adv(l:List UInt8)(c:UInt8)(k:Nat):Nat:=if l[k]? =some c then k+1 else k
theorem Zh1{l:List UInt8}{k:Nat}{c:UInt8}(h:k≤l.length):adv l c k≤l.length:=by
 unfold adv;split
 ·next e=>have:=(List.getElem?_eq_some_iff.1 e).1;omega
 ·exact h
def brE(l:List UInt8)(at_:Nat):Nat:=min (nxt l 93 (adv l 93 (adv l 94 (at_+1)))+1) l.length
theorem Zjw{l:List UInt8}{c:UInt8}{k:Nat}:([c].isPrefixOf (l.drop k)=true)↔l[k]? =some c:=by
 rw[←List.head?_drop];generalize l.drop k=m;cases m with
 |nil=>simp[List.isPrefixOf]
 |cons x m=>simp only[List.isPrefixOf,Bool.and_true,beq_iff_eq,List.head?_cons,Option.some.injEq];exact eq_comm
theorem ZkD{l:List UInt8}{c:UInt8}{k:Nat}(e:[c].isPrefixOf (l.drop k)=true):adv l c k=k+1:=if_pos (Zjw.1 e)
theorem ZkE{l:List UInt8}{c:UInt8}{k:Nat}(e:[c].isPrefixOf (l.drop k)=false):adv l c k=k:=if_neg (fun h=>by rw[Zjw.2 h]at e;cases e)
theorem ZkF{l:List UInt8}{c:UInt8}{k:Nat}:k≤nxt l c k:=by unfold nxt;omega
theorem Zbi(l:List UInt8)(c:UInt8):Lib.indexByte l c=if l.idxOf c<l.length then(l.idxOf c:Int)else -1:=by
 induction l with
 |nil=>simp[Lib.indexByte]
 |cons b l ih=>
  rw[Lib.indexByte,List.idxOf_cons];by_cases h:(b==c)=true
  ·simp[h]
  ·rw[if_neg h,ih];simp only[h,Bool.false_eq_true,if_false,cond_false,List.length_cons];have:=List.idxOf_le_length (a:=c) (l:=l);by_cases h2:l.idxOf c<l.length
   ·rw[if_pos h2,if_neg (by simp),if_pos (by omega)];omega
   ·rw[if_neg h2,if_pos (by rfl),if_neg (by omega)]
theorem Zby(l:List UInt8)(c:UInt8): -1≤Lib.indexByte l c∧Lib.indexByte l c≤l.length:=by
 rw[Zbi];have:=List.idxOf_le_length (a:=c) (l:=l);split<;>omega
theorem ZdM{l:List UInt8}{c:UInt8}{k:Nat}(h:k≤l.length):Lib.indexByte (l.drop k) c=if nxt l c k<l.length then(nxt l c k:Int)-k else -1:=by
 rw[Zbi];unfold nxt;have:=List.idxOf_le_length (a:=c) (l:=l.drop k);simp only[List.length_drop]at *;by_cases h2:(l.drop k).idxOf c<l.length-k
 ·rw[if_pos h2,if_pos (by omega)];omega
 ·rw[if_neg h2,if_neg (by omega)]
theorem ZkG{l:List UInt8}{c:UInt8}{k:Nat}:k≤adv l c k:=by unfold adv;split<;>omega
theorem Zgx{l:List UInt8}{c:UInt8}{a k:Nat}:a+adv (l.drop a) c k=adv l c (a+k):=by
 unfold adv;rw[List.getElem?_drop];split<;>omega
theorem ZjC{l:List UInt8}{c:UInt8}{a k:Nat}:a+nxt (l.drop a) c k=nxt l c (a+k):=by
 unfold nxt;rw[List.drop_drop];omega
theorem ZcM{l:List UInt8}{a:Nat}(h:a≤l.length):a+brE (l.drop a) 0=brE l a:=by
 unfold brE;rw[←Zgx (l:=l) (c:=94) (a:=a) (k:=1),←Zgx (l:=l) (c:=93) (a:=a),←ZjC (l:=l) (c:=93) (a:=a)];simp only[List.length_drop,Nat.zero_add];omega
theorem Zh2(bs:List UInt8):∀s:ByteArray,(bs.map fun b=>(b.toNat:Int)).foldl (fun(r:ByteArray) n=>r.push (UInt8.ofNat n.toNat)) s=⟨s.data++bs.toArray⟩:=by
 induction bs with
 |nil=>intro s;apply ByteArray.ext;simp
 |cons b bs ih=>
  intro s;rw[List.map_cons,List.foldl_cons,ih];apply ByteArray.ext;show(s.data.push _)++bs.toArray=_;simp
theorem run_conv_bytes{P:Program}{src dst e:TypeId}(hs:P.underlying src=some (.slice e))(he:P.underlying e=some (.int .u8))(hd:P.underlying dst=some .string)(a:Addr)(cap:Nat)(bs:List UInt8)(W:World)
 (hc:∀j v,(ZS bs)[j]? =some v→W.cell? (a.add j)=some v):
 (convert src dst (.slice (some a) bs.length cap)).run P W=.ok (.string ⟨bs.toArray⟩) W:=by
 have hl:=run_loadCells_list (P:=P) W a (ZS bs) hc;rw[Zbf]at hl;rw[run_convert_bytes_string _ src dst e _ _ _ hs he hd,run_bytesToString (ns:=bs.map fun b=>(b.toNat:Int)),Zh2]
 ·show Result.ok (Value.string ⟨(#[]:Array UInt8)++bs.toArray⟩) W=_;simp
 ·rw[hl];simp[ZS,ZdI,List.map_map,Function.comp_def]
theorem ZcA{P:Program}{src dst e:TypeId}(hs:P.underlying src=some (.slice e))(he:P.underlying e=some (.int .u8))(hd:P.underlying dst=some .string)(d d':UInt8)(W:World):
 (convert src dst (.slice (some ⟨W.heap.size,0,none⟩) 2 2)).run P (W.alloc (.cells #[.int .u8 d.toNat,.int .u8 d'.toNat] e))=.ok (.string ⟨#[d,d']⟩) (W.alloc (.cells #[.int .u8 d.toNat,.int .u8 d'.toNat] e)):=by
 refine run_conv_bytes hs he hd _ 2 [d,d'] _ ?_;intro j v hj
 match j,hj with
 |0,hj=>simp[ZS,ZdI]at hj;subst hj;simp[Addr.add,World.cell?_alloc_new]
 |1,hj=>simp[ZS,ZdI]at hj;subst hj;simp[Addr.add,World.cell?_alloc_new]
def Zm3(c:UInt8):List UInt8:=if c.toNat<128 then[c]else[(192+c.toNat/64).toUInt8,(128+c.toNat%64).toUInt8]
def ZnF:List UInt8→List UInt8
 |[]=>[]
 |c::r=>Zm3 c++ZnF r
open Go.Lib (hid)
theorem strings_HasPrefixP(l p:List UInt8)(w:World)(hs:l.length≤9223372036854775807)(hp:p.length≤9223372036854775807):
 Calls Tryz.prog 66 #[.string ⟨l.toArray⟩,.string ⟨p.toArray⟩] w fun e w'=>e=.returned (.bool (p.isPrefixOf l))∧w=w':=by
 have HS:=hid hs;have HP:=hid hp;have hx:=ZkX l 0 p.length;simp only[List.drop_zero,Nat.sub_zero]at hx;go_enter Tryz.func66,Tryz.ntmps66;go_wp2
 all_goals go_ret
 ·exact⟨ret_bool (Zc1 (by assumption)),rfl⟩
 ·exact⟨ret_bool (Zc2 (by assumption)),rfl⟩
theorem strings_IndexByte(l:List UInt8)(c:Int)(w:World):
 Calls Tryz.prog 56 #[.string ⟨l.toArray⟩,.int .u8 c] w fun e w'=>e=.returned (.int .i64 (Lib.indexByte l c.toNat.toUInt8))∧w=w':=by
 go_enter Tryz.func56,Tryz.ntmps56;go_wp2;rw[run_callFunc_extern Tryz.func113 (by kernel_rfl) (by kernel_rfl) (by kernel_rfl) (e:=Extern.BytealgIndexByte.indexByte) (by kernel_rfl),Lib.run_indexByteString];simp only[Result.andThen];rw[Oper.upon_value];go_wp2;go_ret;exact⟨rfl,rfl⟩
theorem bracket_any(l:List UInt8)(w:World)(hs:l.length≤4611686018427387904)(h1:1≤l.length):
 Calls Tryz.prog 176 #[.string ⟨l.toArray⟩] w fun e w'=>e=.returned (.int .i64 (brE l 0))∧w=w':=by
 have i0:∀w,(Instr.index 276 (.agg #[.string ⟨#[94]⟩,.string ⟨#[93]⟩]) (.int .i64 0)).run Tryz.prog w=.ok (.string ⟨#[94]⟩) w:=fun _=>by kernel_rfl
 have i1:∀w,(Instr.index 276 (.agg #[.string ⟨#[94]⟩,.string ⟨#[93]⟩]) (.int .i64 1)).run Tryz.prog w=.ok (.string ⟨#[93]⟩) w:=fun _=>by kernel_rfl
 go_enter Tryz.func176,Tryz.ntmps176;go_wp2
 go_loop [3,8] (fun b i=>(b=.int .i64 1∧i=.int .i64 0)∨(b=.int .i64 (adv l 94 1)∧i=.int .i64 1)∨(b=.int .i64 (adv l 93 (adv l 94 1))∧i=.int .i64 2)) (fun _ i=>2-(intOf i).toNat)
 case atStart=>exact .inl ⟨rfl,rfl⟩
 case round=>
  rcases hrel with⟨rfl,rfl⟩|⟨rfl,rfl⟩|⟨rfl,rfl⟩
  ·go_wp2_with(go_at_call 66;refine(strings_HasPrefixP _ _ w (by simp;omega) (by simp)).mono ?_;rintro e w' ⟨rfl,rfl⟩)
   ·have e:=ZkD (l:=l) (c:=94) (k:=1) (by rw[List.drop_one];assumption)
    go_round
    case rel=>exact .inr (.inl ⟨by rw[e];rfl,rfl⟩)
    case measure=>simp[intOf]
   ·have e:=ZkE (l:=l) (c:=94) (k:=1) (by rw[List.drop_one];assumption)
    go_round
    case rel=>exact .inr (.inl ⟨by rw[e];rfl,rfl⟩)
    case measure=>simp[intOf]
  ·have ha:adv l 94 1≤l.length:=Zh1 h1
   go_wp2_with(go_at_call 66;refine(strings_HasPrefixP _ _ w (by simp;omega) (by simp)).mono ?_;rintro e w' ⟨rfl,rfl⟩)
   ·have e:=ZkD (l:=l) (c:=93) (k:=adv l 94 1) (by assumption)
    go_round
    case rel=>exact .inr (.inr ⟨by rw[e];go_num,rfl⟩)
    case measure=>simp[intOf]
   ·have e:=ZkE (l:=l) (c:=93) (k:=adv l 94 1) (by assumption)
    go_round
    case rel=>exact .inr (.inr ⟨by rw[e],rfl⟩)
    case measure=>simp[intOf]
  ·have ha:adv l 93 (adv l 94 1)≤l.length:=Zh1 (Zh1 h1);have hb:=Zby (l.drop (adv l 93 (adv l 94 1))) 93;have hn:=hid (ZdM (c:=93) ha);have hl:=Zl0 (c:=93) ha;have hg:=ZkF (l:=l) (c:=93) (k:=adv l 93 (adv l 94 1));simp only[List.length_drop]at hb
   go_wp2_with(go_at_call 56;refine(strings_IndexByte _ _ w).mono ?_;rintro e w' ⟨rfl,rfl⟩)
   ·have hlt:Lib.indexByte (List.drop (adv l 93 (adv l 94 1)) l) 93<0:=by assumption
    go_ret;refine⟨ZcY ?_,rfl⟩;have hn:=hn.out;unfold brE;simp only[Nat.zero_add];split at hn<;>omega
   ·have hlt:0≤Lib.indexByte (List.drop (adv l 93 (adv l 94 1)) l) 93:=by assumption
    go_ret;refine⟨ZcY ?_,rfl⟩;have hn:=hn.out;unfold brE;simp only[Nat.zero_add];split at hn<;>omega
def Rdr(b:Nat)(s:List UInt8)(at_:Nat)(out:List UInt8)(g:Option Nat)(w:World):Prop:=
 ∃cs,ZcZ 5 262 b 2 cs out g w∧cs.size=4∧cs[0]? =some (.string ⟨s.toArray⟩)∧cs[1]? =some (.int .i64 at_)
theorem Zei{n:Nat}(h:n=4):Zfj 262 n 2:=by subst h;unfold Zfj;kernel_rfl
theorem Rdr.drew{b:Nat}{s:List UInt8}{at_:Nat}{out:List UInt8}{g:Option Nat}{w:World}(h:Rdr b s at_ out g w):Rdr b s at_ out g w.drew:=h
theorem Rdr.cell0{b:Nat}{s:List UInt8}{at_:Nat}{out:List UInt8}{g:Option Nat}{w:World}(h:Rdr b s at_ out g w):w.cell? ⟨b,0,none⟩=some (.string ⟨s.toArray⟩):=by
 obtain⟨cs,⟨hb,_⟩,_,h0,_⟩:=h;exact cell_at hb h0
theorem Rdr.cell1{b:Nat}{s:List UInt8}{at_:Nat}{out:List UInt8}{g:Option Nat}{w:World}(h:Rdr b s at_ out g w):w.cell? ⟨b,1,none⟩=some (.int .i64 at_):=by
 obtain⟨cs,⟨hb,_⟩,_,_,h1⟩:=h;exact cell_at hb h1
theorem Rdr.thawed{b:Nat}{s:List UInt8}{at_:Nat}{out:List UInt8}{g:Option Nat}{w:World}(h:Rdr b s at_ out g w)(j:Nat):w.frozen? ⟨b,j,none⟩=false:=by
 obtain⟨cs,⟨hb,_⟩,_⟩:=h;exact unfrozen_at hb j
theorem Rdr.moved{b:Nat}{s:List UInt8}{at_:Nat}{out:List UInt8}{g:Option Nat}{w:World}(h:Rdr b s at_ out g w)(k:Nat):Rdr b s k out g (w.setCell ⟨b,1,none⟩ (.int .i64 k)):=by
 obtain⟨cs,⟨hb,ho,hp,v,hv,hown,hg,hne,hn⟩,hs,h0,h1⟩:=h;refine⟨cs.setIfInBounds 1 (.int .i64 k),⟨Za hb 1 _,by simpa using ho,?_,v,?_,?_,hg,hne,hn⟩,by simpa using hs,?_,Zeh (by omega)⟩
 ·rw[Zat (by omega)];exact hp
 ·rw[Zat (by omega)];exact hv
 ·exact ownsRow_fr hown ((Fr.refl (fun k=>k=b) w).setCell (p:=⟨b,1,none⟩) (fun _=>rfl) _) (fun k hk e=>hne (by rw[←hg,hk,e]))
 ·rw[Zat (by omega)];exact h0
theorem Zc3(b:Nat)(s:List UInt8)(at_:Nat)(out l:List UInt8)(g:Option Nat)(w:World)(h:Rdr b s at_ out g w)(hlen:out.length+l.length≤140737488355328):
 Calls Tryz.prog 50 #[.pointer (some ⟨b,2,none⟩),.string ⟨l.toArray⟩] w fun e w'=>e=.returned (.tuple #[.int .i64 l.length,.nilIface])∧
  ∃g',Rdr b s at_ (out++l) g' w'∧Fr (fun k=>k=b∨some k=g) w w'∧(∀k,g'=some k→some k=g∨w.heap.size≤k):=by
 obtain⟨cs,hb,hs,h0,h1⟩:=h;refine(Zc0 _ b 2 cs out g l w hb (Zei hs) hlen).mono ?_;rintro e w' ⟨rfl,v',hb',hf,hn⟩;exact⟨rfl,_,⟨_,hb',by rw[Zan];exact hs,by rw[Zbg _ _ _ _ (by omega) (by omega)];exact h0,by rw[Zbg _ _ _ _ (by omega) (by omega)];exact h1⟩,hf,hn⟩
theorem rdr_writeByte(b:Nat)(s:List UInt8)(at_:Nat)(out:List UInt8)(c:Int)(g:Option Nat)(w:World)(hc:0≤c∧c≤255)(h:Rdr b s at_ out g w)(hlen:out.length≤140737488355327):
 Calls Tryz.prog 77 #[.pointer (some ⟨b,2,none⟩),.int .u8 c] w fun e w'=>e=.returned .nilIface∧
  ∃g',Rdr b s at_ (out++[c.toNat.toUInt8]) g' w'∧Fr (fun k=>k=b∨some k=g) w w'∧(∀k,g'=some k→some k=g∨w.heap.size≤k):=by
 obtain⟨cs,hb,hs,h0,h1⟩:=h;refine(Zb0 _ b 2 cs out g c w hc hb (Zei hs) hlen).mono ?_;rintro e w' ⟨rfl,v',hb',hf,hn⟩;exact⟨rfl,_,⟨_,hb',by rw[Zan];exact hs,by rw[Zbg _ _ _ _ (by omega) (by omega)];exact h0,by rw[Zbg _ _ _ _ (by omega) (by omega)];exact h1⟩,hf,hn⟩
def Zfn(b:Nat)(s:List UInt8)(at_:Nat)(out:List UInt8)(g:Option Nat)(w w':World):Prop:=
 ∃g',Rdr b s at_ out g' w'∧Fr (fun k=>k=b∨some k=g) w w'∧(∀k,g'=some k→some k=g∨w.heap.size≤k)
theorem copy_yes(b:Nat)(s:List UInt8)(at_ n:Nat)(out:List UInt8)(g:Option Nat)(w:World)(h:Rdr b s at_ out g w)(hs:s.length≤1000000)(ho:out.length≤1000000)(hn:at_+n≤s.length)
 (hi:Lib.indexByte ((s.drop at_).take n) 10<0):
 Calls Tryz.prog 177 #[.pointer (some ⟨b,0,none⟩),.int .i64 n] w fun e w'=>e=.returned (.bool true)∧Zfn b s (at_+n) (out++(s.drop at_).take n) g w w':=by
 have c0:=h.cell0;have c1:=h.cell1;have H:=hid h;clear h;have hw:IntKind.i64.wrap ((at_:Int)+n)=at_+n:=IntWalk.i64_in _ (by omega);have hsl:=Zaa (P:=Tryz.prog) s (lo:=at_) (hi:=(at_:Int)+n) Tryz.underlying9 (by omega) (by omega) (by omega);go_enter Tryz.func177,Tryz.ntmps177;go_wp2
 go_still_tail 14,(by kernel_rfl)
 change wpList _ _ _ _ _ w.drew
 go_wp2_with(go_at_call 56;refine(strings_IndexByte _ _ _).mono ?_;rintro e w' ⟨rfl,rfl⟩)
 refine(Zc3 b s at_ out ((s.drop at_).take n) g _ H.out.drew (by have:=List.length_take_le n (s.drop at_);omega)).mono ?_;rintro e w1 ⟨rfl,g',h1,hf,hn1⟩;have d1:=h1.cell1;have t1:=h1.thawed 1;have H1:=hid h1;clear h1;go_wp2;go_ret;refine⟨rfl,g',H1.out.moved (at_+n),?_,hn1⟩;exact(((Fr.refl _ w).drew).trans' hf).setCell (p:=⟨b,1,none⟩) (fun _=>Or.inl rfl) _
theorem copy_no(b:Nat)(s:List UInt8)(at_ n:Nat)(out:List UInt8)(g:Option Nat)(w:World)(h:Rdr b s at_ out g w)(hs:s.length≤1000000)(hn:at_+n≤s.length)
 (i:Nat) (hi:Lib.indexByte ((s.drop at_).take n) 10=i):
 Calls Tryz.prog 177 #[.pointer (some ⟨b,0,none⟩),.int .i64 n] w fun e w'=>e=.returned (.bool false)∧Zfn b s (at_+i) out g w w':=by
 have c0:=h.cell0;have c1:=h.cell1;have t1:=h.thawed 1;have H:=hid h;clear h;have hw:IntKind.i64.wrap ((at_:Int)+n)=at_+n:=IntWalk.i64_in _ (by omega);have hsl:=Zaa (P:=Tryz.prog) s (lo:=at_) (hi:=(at_:Int)+n) Tryz.underlying9 (by omega) (by omega) (by omega);have hbd:=Zby ((s.drop at_).take n) 10;have hll:((s.drop at_).take n).length≤n:=List.length_take_le _ _;have hi2:(i:Int)≤n:=by omega
 have hi3:(0:Int)≤i:=by omega
 clear hbd hll;go_enter Tryz.func177,Tryz.ntmps177;go_wp2
 go_still_tail 14,(by kernel_rfl)
 change wpList _ _ _ _ _ w.drew;clear hw
 go_wp2_with(go_at_call 56;refine(strings_IndexByte _ _ _).mono ?_;rintro e w' ⟨rfl,rfl⟩)
 go_ret;exact⟨rfl,g,(H.out.moved (at_+i)),((Fr.refl _ w).setCell (p:=⟨b,1,none⟩) (fun _=>Or.inl rfl) _).drew,fun k hk=>.inl hk.symm⟩
def esc(s:List UInt8)(d:UInt8)(rx:Bool)(at_:Nat)(out:List UInt8):Int×Nat×List UInt8:=
 match s[at_+1]? with
 |none=>(5,s.length,out)
 |some x=>if x=d then(0,at_+2,out++[x])else if x=10∧rx=true then(2,at_+1,out)else(0,at_+2,out++[92,x])
theorem escape_any(b:Nat)(s:List UInt8)(at_:Nat)(out:List UInt8)(d:UInt8)(rx:Bool)(g:Option Nat)(w:World)(h:Rdr b s at_ out g w)(hs:s.length≤1000000)(ho:out.length≤1000000)(hat:at_<s.length):
 Calls Tryz.prog 175 #[.pointer (some ⟨b,0,none⟩),.int .u8 d.toNat,.bool rx] w fun e w'=>
  e=.returned (.int .i64 (esc s d rx at_ out).1)∧Zfn b s (esc s d rx at_ out).2.1 (esc s d rx at_ out).2.2 g w w':=by
 have c0:=h.cell0;have c1:=h.cell1;have t1:=h.thawed 1;by_cases hend:at_+1=s.length
 ·have hE:esc s d rx at_ out=(5,s.length,out):=by unfold esc;rw[List.getElem?_eq_none (by omega)]
  rw[hE];clear hE;have ht:((at_:Int)+1==s.length)=true:=by simp;omega
  have H:=hid h;clear h;have HE:=hid hend;clear hend;go_enter Tryz.func175,Tryz.ntmps175;have hw:IntKind.i64.wrap ((at_:Int)+1)=at_+1:=IntWalk.i64_in _ (by omega);go_wp2
  go_still_tail 10,(by kernel_rfl)
  change wpList _ _ _ _ _ w.drew;clear hw;go_wp2;go_ret;exact⟨rfl,g,H.out.moved s.length,((Fr.refl _ w).setCell (p:=⟨b,1,none⟩) (fun _=>Or.inl rfl) _).drew,fun k hk=>.inl hk.symm⟩
 ·have hlt:at_+1<s.length:=by omega
  have hx:s[at_+1]? =some s[at_+1]:=List.getElem?_eq_getElem hlt;have ht:((at_:Int)+1==s.length)=false:=by simp;omega
  have hlt':(at_:Int)+1<s.length:=by omega
  have hw:IntKind.i64.wrap ((at_:Int)+1)=at_+1:=IntWalk.i64_in _ (by omega);have hbd:=Zb1 s[at_+1];have hq1:(0:Int)≤(at_:Int)+1:=by omega
  have hq2:((at_:Int)+1).toNat=at_+1:=by omega
  have hbk:=hid (ZaI s[at_+1]);by_cases hd:s[at_+1]=d
  ·have hE:esc s d rx at_ out=(0,at_+2,out++[s[at_+1]]):=by unfold esc;rw[hx];simp only[hd,if_true]
   rw[hE];clear hE hx;have ht2:=Zfm hd;have H:=hid h;clear h;have HD:=hid hd;clear hd;go_enter Tryz.func175,Tryz.ntmps175;go_wp2
   go_quiet (fail)
   go_wp2
   go_quiet (fail)
   go_wp2_with fail
   refine(rdr_writeByte b s at_ out _ g _ hbd (by exact H.out) (by omega)).mono ?_;rintro e w1 ⟨rfl,g',h1,hf,hn1⟩;rw[hbk.out]at h1;have d1:=h1.cell1;have t2:=h1.thawed 1;have H1:=hid h1;clear h1;go_wp2;go_ret;refine⟨rfl,g',H1.out.moved (at_+2),?_,hn1⟩;exact(((Fr.refl _ w).drewN _).trans' hf).setCell (p:=⟨b,1,none⟩) (fun _=>Or.inl rfl) _
  ·have ht2:=ZG hd;by_cases hn:s[at_+1]=10∧rx=true
   ·obtain⟨h10,rfl⟩:=hn;have hE:esc s d true at_ out=(2,at_+1,out):=by unfold esc;rw[hx];simp only[hd,h10,if_false,and_self,if_true];rw[if_neg (by rw[←h10];exact hd)]
    rw[hE];clear hE hx;have ht3:((s[at_+1].toNat:Int)==10)=true:=by rw[h10];rfl
    have H:=hid h;clear h;have HD:=hid hd;clear hd;clear h10;go_enter Tryz.func175,Tryz.ntmps175;go_wp2
    go_quiet (fail)
    go_wp2
    go_quiet (fail)
    go_wp2;go_ret;refine⟨rfl,g,H.out.moved (at_+1),?_,fun k hk=>.inl hk.symm⟩;exact((Fr.refl _ w).setCell (p:=⟨b,1,none⟩) (fun _=>Or.inl rfl) _).drewN _
   ·have hE:esc s d rx at_ out=(0,at_+2,out++[92,s[at_+1]]):=by unfold esc;rw[hx];simp only[hd,if_false,hn]
    rw[hE];clear hE hx;have ht3:((s[at_+1].toNat:Int)==10)=false∨(((s[at_+1].toNat:Int)==10)=true∧rx=false):=by
     by_cases h10:s[at_+1]=10
     ·right;exact⟨by rw[h10];rfl,ZlZ h10 hn⟩
     ·left;exact ZG h10
    have H:=hid h;clear h;have HD:=hid hd;clear hd;clear hn;rcases ht3 with ht3|⟨ht3,rfl⟩
    all_goals
     go_enter Tryz.func175,Tryz.ntmps175;go_wp2
     go_quiet (fail)
     go_wp2
     go_quiet (fail)
     go_wp2_with fail
     refine(rdr_writeByte b s at_ out 92 g _ (by omega) (by exact H.out) (by omega)).mono ?_;rintro e w0 ⟨rfl,g0,h0,hf0,hn0⟩
     go_wp2_with fail
     refine(rdr_writeByte b s at_ _ _ g0 _ hbd h0 (by simp;omega)).mono ?_;rintro e w1 ⟨rfl,g',h1,hf,hn1⟩;rw[hbk.out]at h1;have d1:=h1.cell1;have t2:=h1.thawed 1;have H1:=hid h1;clear h1;have H0:=hid h0;clear h0;go_wp2;go_ret;have hsz:=hf0.size;have h1':=H1.out;simp only[List.append_assoc,List.cons_append,List.nil_append]at h1';refine⟨rfl,g',Rdr.moved h1' (at_+2),?_,fun k hk=> ?_⟩
     ·exact((((Fr.refl _ w).drewN _).trans' hf0).trans hf (fun i hi h=>h.imp_right fun h=>by rcases hn0 i h.symm with h|h;exact h;simp[World.drewN]at h;omega)).setCell (p:=⟨b,1,none⟩) (fun _=>Or.inl rfl) _
     ·rcases hn1 k hk with h|h
      ·exact hn0 k h.symm
      ·exact .inr (by simp[World.drewN]at hsz;omega)
def bt(l:List UInt8)(d:UInt8)(rx:Bool):Nat→Nat→List UInt8→List UInt8×Nat×Int
 |0,_,_=>([],0,0)
 |n+1,k,out=>
  match l[k]? with
  |none=>([],l.length,5)
  |some c=>
   if c=d then(out,k+1,0)
   else if c=92 then(if(esc l d rx k out).1=0 then bt l d rx n (esc l d rx k out).2.1 (esc l d rx k out).2.2 else([],(esc l d rx k out).2.1,(esc l d rx k out).1))
   else
    let m:=if c=91∧rx=true then brE l k-k else 1
    let i:=Lib.indexByte ((l.drop k).take m) 10
    if i<0 then bt l d rx n (k+m) (out++(l.drop k).take m)else([],k+i.toNat,2)
theorem over_any(l:List UInt8)(at_:Int)(w:World)(hs:l.length≤1000000):
 Calls Tryz.prog 128 #[.string ⟨l.toArray⟩,.int .i64 at_] w fun e w'=>e=.returned (.bool (decide (at_<0)||decide ((l.length:Int)<at_)))∧w=w':=by
 go_enter Tryz.func128,Tryz.ntmps128;go_wp2
 all_goals go_ret
 all_goals simp_all
theorem ZkY(w:World)(l:List UInt8)(k:Nat):Rdr w.heap.size l k [] none (w.alloc (.cells #[.string ⟨l.toArray⟩,.int .i64 k,.pointer none,.slice none 0 0] 262)):=
 ⟨_,⟨Zk w _,by simp,.inl rfl,.slice none 0 0,rfl,World.ownsRow_nil _ _ _ _,rfl,by simp,fun _=>rfl⟩,rfl,rfl,rfl⟩
theorem rdr_string(b:Nat)(s:List UInt8)(at_:Nat)(out:List UInt8)(g:Option Nat)(w:World)(h:Rdr b s at_ out g w):
 Calls Tryz.prog 49 #[.pointer (some ⟨b,2,none⟩)] w fun e w'=>e=.returned (.string ⟨out.toArray⟩)∧w'.cell? ⟨b,1,none⟩=some (.int .i64 at_)∧Fr (fun k=>some k=g) w w':=by
 obtain⟨cs,hb,hs,h0,h1⟩:=h;refine(Zdp _ b 2 cs out g w hb).mono ?_;rintro e w' ⟨rfl,hf⟩;obtain⟨hbk,_,_,v,_,_,_,hne,_⟩:=hb;exact⟨rfl,cell_at (hf.heap hbk (fun e=>hne e.symm)) h1,hf⟩
theorem Zl1{l:List UInt8}{d:UInt8}{rx:Bool}{k:Nat}{out:List UInt8}(h:(esc l d rx k out).1=0):
 (esc l d rx k out).2.1=k+2∧k+2≤l.length∧(esc l d rx k out).2.2.length≤out.length+2:=by
 revert h;unfold esc
 cases hx:l[k+1]? with
 |none=>simp
 |some x=>
  have hlt:=(List.getElem?_eq_some_iff.1 hx).1;simp only;split
  ·intro _;refine⟨rfl,by omega,by simp⟩
  ·split
   ·intro h;simp at h
   ·intro _;refine⟨rfl,by omega,by simp⟩
def Zm4(l:List UInt8)(d:UInt8)(rx:Bool)(F:List UInt8×Nat×Int)(w:World)(n:Nat)(wr:World):Prop:=
 ∃(k:Nat) (out:List UInt8) (g:Option Nat),l.length<n+k∧k≤l.length∧out.length≤k∧Rdr w.heap.size l k out g wr∧Fr nob w wr∧(∀j,g=some j→w.heap.size≤j)∧bt l d rx n k out=F
theorem ZkZ{l:List UInt8}{d:UInt8}{rx:Bool}{n k:Nat}{out:List UInt8}(h:l.length≤k):bt l d rx (n+1) k out=([],l.length,5):=by
 rw[bt,List.getElem?_eq_none h]
theorem Zl2{l:List UInt8}{d:UInt8}{rx:Bool}{n k:Nat}{out:List UInt8}(h:k<l.length)(e:l[k]=d):bt l d rx (n+1) k out=(out,k+1,0):=by
 rw[bt,List.getElem?_eq_getElem h];simp[e]
theorem Zl3{l:List UInt8}{d:UInt8}{rx:Bool}{n k:Nat}{out:List UInt8}(h:k<l.length)(e:l[k]≠d)(e2:l[k]=92):
 bt l d rx (n+1) k out=(if(esc l d rx k out).1=0 then bt l d rx n (esc l d rx k out).2.1 (esc l d rx k out).2.2 else([],(esc l d rx k out).2.1,(esc l d rx k out).1)):=by
 rw[bt,List.getElem?_eq_getElem h];simp only;rw[if_neg e,if_pos e2]
theorem Zh3{l:List UInt8}{d:UInt8}{rx:Bool}{n k m:Nat}{out:List UInt8}(h:k<l.length)(e:l[k]≠d)(e2:l[k]≠92)(hm:(if l[k]=91∧rx=true then brE l k-k else 1)=m):
 bt l d rx (n+1) k out=(if Lib.indexByte ((l.drop k).take m) 10<0 then bt l d rx n (k+m) (out++(l.drop k).take m)else([],k+(Lib.indexByte ((l.drop k).take m) 10).toNat,2)):=by
 rw[bt,List.getElem?_eq_getElem h];simp only;rw[if_neg e,if_neg e2,hm]
theorem Zfo(l:List UInt8)(at_:Nat)(d:UInt8)(rx:Bool)(w:World)(hs:l.length≤100000)(hat:at_≤l.length):
 Calls Tryz.prog 147 #[.string ⟨l.toArray⟩,.int .i64 at_,.int .u8 d.toNat,.bool rx] w fun e w'=>
  e=.returned (.tuple #[.string ⟨(bt l d rx (l.length+1) at_ []).1.toArray⟩,.int .i64 (bt l d rx (l.length+1) at_ []).2.1,.int .i64 (bt l d rx (l.length+1) at_ []).2.2])∧Fr nob w w':=by
 obtain⟨F,hF⟩:∃F,bt l d rx (l.length+1) at_ []=F:=⟨_,rfl⟩;rw[hF];have HF:=hid hF;clear hF;have ho:(decide ((at_:Int)<0)||decide ((l.length:Int)<at_))=false:=by simp;omega
 have HO:=hid ho;clear ho;go_enter Tryz.func147,Tryz.ntmps147
 go_wp2_with(go_at_call 128;refine(over_any _ _ w (by omega)).mono ?_;rw[HO.out];rintro e w' ⟨rfl,rfl⟩)
 go_loopg [12] (l.length+1) (fun n _ wr=>Zm4 l d rx F w n wr)
 case atStart=>exact⟨at_,[],none,by omega,hat,Nat.zero_le _,ZkY _ _ _,(Fr.refl _ _).alloc _,fun _ h=>(by cases h),HF.out⟩
 case round=>
  obtain⟨k,out,g,hn,hk,hout,hr,hfr,hg,hb⟩:=hrel;obtain⟨m,rfl⟩:∃m,gk=m+1:=⟨gk-1,by omega⟩;have c0:=hr.cell0;have c1:=hr.cell1;have HR:=hid hr;clear hr;have HFR:=hid hfr;clear hfr;have HG:=hid hg;clear hg;by_cases hlt:k<l.length
  ·by_cases hd:l[k]=d
   ·rw[Zl2 hlt hd]at hb;subst hb;have t1:=Zfm hd;have hw:IntKind.i64.wrap ((k:Int)+1)=k+1:=IntWalk.i64_in _ (by omega);clear hd
    go_wp2_with fail
    go_region_with (go_at_call 49;refine(rdr_string _ l k out g _ (by exact HR.out)).mono ?_;rintro e w1 ⟨rfl,d1,hf1⟩;have HF1:=hid hf1;clear hf1)
    all_goals
     go_wp2
     go_ret3
     exact⟨rfl,HFR.out.drew.trans HF1.out (fun i hi h=>by have:=HG.out i h.symm;omega)⟩
   ·have t1:=ZG hd;by_cases h92:l[k]=92
    ·rw[Zl3 hlt hd h92]at hb;have t2:((l[k].toNat:Int)==92)=true:=by rw[h92];rfl
     have HB:=hid hb;clear hb hd h92
     go_wp2_with(go_at_call 175;refine(escape_any _ l k out d rx g _ HR.out (by omega) (by omega) hlt).mono ?_;rintro e w1 ⟨rfl,g1,hr1,hf1,hg1⟩)
     ·have hne:((esc l d rx k out).1 !=0)=true:=by assumption
      have hb:=HB.out;rw[if_neg (by simpa using hne)]at hb;subst hb;have d1:=hr1.cell1;have HF1:=hid hf1;clear hf1;have HR1:=hid hr1;clear hr1;have HG1:=hid hg1;clear hg1
      go_quiet (fail)
      go_wp2
      go_ret3
      exact⟨rfl,(HFR.out.trans HF1.out (fun i hi h=>by rcases h with h|h;omega;have:=HG.out i h.symm;omega)).drewN _⟩
     ·have heq:(esc l d rx k out).1=0:=by have:((esc l d rx k out).1 !=0)=false:=by assumption
                                          simpa using this
      obtain⟨e1,e2,e3⟩:=Zl1 heq;have hb:=HB.out;rw[if_pos heq]at hb;have hsz:=HFR.out.size;clear heq
      go_roundg m
      case measure=>omega
      case rel=>exact⟨_,_,g1,by omega,by omega,by omega,hr1,HFR.out.trans hf1 (fun i hi h=>by rcases h with h|h;omega;have:=HG.out i h.symm;omega),fun j hj=>by rcases hg1 j hj with h|h;exact HG.out j h.symm;omega,hb⟩
    ·have t2:((l[k].toNat:Int)==92)=false:=ZG h92;by_cases h91:l[k]=91∧rx=true
     ·obtain⟨h91,rfl⟩:=h91;have t3:((l[k].toNat:Int)==91)=true:=by rw[h91];rfl
      have hm:(if l[k]=91∧true=true then brE l k-k else 1)=brE (l.drop k) 0:=by rw[if_pos ⟨h91,rfl⟩,←ZcM (by omega)];omega
      rw[Zh3 hlt hd h92 hm]at hb;have hle:k+brE (l.drop k) 0≤l.length:=by rw[ZcM (by omega)];unfold brE;omega
      have hge:1≤brE (l.drop k) 0:=by unfold brE;simp only[List.length_drop];omega
      have HB:=hid hb;clear hb hm hd h92 h91;obtain⟨q,hq⟩:∃q,brE (l.drop k) 0=q:=⟨_,rfl⟩;have HQ:=hid hq;clear hq;rw[HQ.out]at hle hge HB;by_cases hi:Lib.indexByte ((l.drop k).take q) 10<0
      ·have hb:=HB.out;rw[if_pos hi]at hb;have HI:=hid hi;clear hi
       go_wp2_with(go_at_call 176;refine(bracket_any (l.drop k) _ (by simp;omega) (by simp;omega)).mono ?_;rw[HQ.out];rintro e w' ⟨rfl,rfl⟩)
       go_wp2_with(go_at_call 177;refine(copy_yes _ l k q out g _ (by exact HR.out) (by omega) (by omega) hle HI.out).mono ?_;rintro e w1 ⟨rfl,g1,hr1,hf1,hg1⟩)
       have hsz:=HFR.out.size;have hl:=List.length_take_le q (l.drop k)
       go_roundg m
       case measure=>omega
       case rel=>exact⟨_,_,g1,by omega,by omega,by rw[List.length_append];omega,hr1,HFR.out.trans hf1 (fun i hi h=>by rcases h with h|h;omega;have:=HG.out i h.symm;omega),fun j hj=>by rcases hg1 j hj with h|h;exact HG.out j h.symm;omega,hb⟩
      ·have hb:=HB.out;rw[if_neg hi]at hb;obtain⟨i,hi2⟩:∃i:Nat,Lib.indexByte ((l.drop k).take q) 10=i:=⟨_,(Int.toNat_of_nonneg (by omega)).symm⟩;rw[hi2,Int.toNat_natCast]at hb;subst hb;have HI:=hid hi2;clear hi hi2
       go_wp2_with(go_at_call 176;refine(bracket_any (l.drop k) _ (by simp;omega) (by simp;omega)).mono ?_;rw[HQ.out];rintro e w' ⟨rfl,rfl⟩)
       go_wp2_with(go_at_call 177;refine(copy_no _ l k q out g _ (by exact HR.out) (by omega) hle i HI.out).mono ?_;rintro e w1 ⟨rfl,g1,hr1,hf1,hg1⟩)
       have d1:=hr1.cell1;have HF1:=hid hf1;clear hf1;have HR1:=hid hr1;clear hr1;have HG1:=hid hg1;clear hg1
       go_quiet (fail)
       go_wp2
       go_ret3
       exact⟨rfl,(HFR.out.trans HF1.out (fun i hi h=>by rcases h with h|h;omega;have:=HG.out i h.symm;omega)).drewN _⟩
     ·rw[Zh3 hlt hd h92 (if_neg h91)]at hb;have t3:((l[k].toNat:Int)==91)=false∨(((l[k].toNat:Int)==91)=true∧rx=false):=by
       by_cases h10:l[k]=91
       ·right;exact⟨by rw[h10];rfl,ZlZ h10 h91⟩
       ·left;exact ZG h10
      have HB:=hid hb;clear hb hd h92 h91;obtain⟨q,hq⟩:∃q:Nat,q=1:=⟨1,rfl⟩;have hle:k+1≤l.length:=by omega
      rcases t3 with t3|⟨t3,rfl⟩
      all_goals
       by_cases hi:Lib.indexByte ((l.drop k).take 1) 10<0
       ·have hb:=HB.out;rw[if_pos hi]at hb;have HI:=hid hi;clear hi
        go_wp2_with(go_at_call 177;refine(copy_yes _ l k 1 out g _ (by exact HR.out) (by omega) (by omega) hle HI.out).mono ?_;rintro e w1 ⟨rfl,g1,hr1,hf1,hg1⟩)
        have hsz:=HFR.out.size;have hl:=List.length_take_le 1 (l.drop k)
        go_roundg m
        case measure=>omega
        case rel=>exact⟨_,_,g1,by omega,by omega,by rw[List.length_append];omega,hr1,HFR.out.trans hf1 (fun i hi h=>by rcases h with h|h;omega;have:=HG.out i h.symm;omega),fun j hj=>by rcases hg1 j hj with h|h;exact HG.out j h.symm;omega,hb⟩
       ·have hb:=HB.out;rw[if_neg hi]at hb;obtain⟨i,hi2⟩:∃i:Nat,Lib.indexByte ((l.drop k).take 1) 10=i:=⟨_,(Int.toNat_of_nonneg (by omega)).symm⟩;rw[hi2,Int.toNat_natCast]at hb;subst hb;have HI:=hid hi2;clear hi hi2
        go_wp2_with(go_at_call 177;refine(copy_no _ l k 1 out g _ (by exact HR.out) (by omega) hle i HI.out).mono ?_;rintro e w1 ⟨rfl,g1,hr1,hf1,hg1⟩)
        have d1:=hr1.cell1;have HF1:=hid hf1;clear hf1;have HR1:=hid hr1;clear hr1;have HG1:=hid hg1;clear hg1
        go_quiet (fail)
        go_wp2
        go_ret3
        exact⟨rfl,(HFR.out.trans HF1.out (fun i hi h=>by rcases h with h|h;omega;have:=HG.out i h.symm;omega)).drewN _⟩
  ·rw[ZkZ (by omega)]at hb;subst hb;go_wp2
   go_ret3
   exact⟨rfl,HFR.out⟩
theorem ZnG{o:List UInt8}{k:Nat}{a:UInt8}(h:o.length≤k):(o++[a]).length≤k+1:=by simp;omega
theorem Zm5{o:List UInt8}{k:Nat}{a:UInt8}(h:o.length≤k):(o++[a]).length≤k+2:=by simp;omega
def nm(at_:Nat):List UInt8→Nat→Nat→Nat×Nat×Int
 |[],n,c=>if c=0 then(0,at_,2)else(n,at_+c,0)
 |x::r,n,c=>if 48≤x.toNat∧x.toNat≤57 then(if c=9 then(0,at_,3)else nm at_ r (n*10+(x.toNat-48)) (c+1))else if c=0 then(0,at_,2)else(n,at_+c,0)
theorem Zl4{at_:Nat}{l:List UInt8}{k n c:Nat}(h:l.length≤k):nm at_ (l.drop k) n c=if c=0 then(0,at_,2)else(n,at_+c,0):=by
 rw[List.drop_eq_nil_of_le h];rfl
theorem Zm6{at_:Nat}{l:List UInt8}{k n c:Nat}(h:k<l.length)(hd:¬(48≤l[k].toNat∧l[k].toNat≤57)):nm at_ (l.drop k) n c=if c=0 then(0,at_,2)else(n,at_+c,0):=by
 rw[List.drop_eq_getElem_cons h,nm,if_neg hd]
theorem Zk0{at_:Nat}{l:List UInt8}{k n:Nat}(h:k<l.length)(hd:48≤l[k].toNat∧l[k].toNat≤57):nm at_ (l.drop k) n 9=(0,at_,3):=by
 rw[List.drop_eq_getElem_cons h,nm,if_pos hd,if_pos rfl]
theorem Zk1{at_:Nat}{l:List UInt8}{k n c:Nat}(h:k<l.length)(hd:48≤l[k].toNat∧l[k].toNat≤57)(hc:c≠9):nm at_ (l.drop k) n c=nm at_ (l.drop (k+1)) (n*10+(l[k].toNat-48)) (c+1):=by
 rw[List.drop_eq_getElem_cons h,nm,if_pos hd,if_neg hc]
theorem Zbz{S:Nat→Prop}{a w:World}(h:Fr S a w)(s:ByteArray)(p:Nat):Fr S a (w.iter s p):=h.alloc _
def Zg8(c:Nat):Nat:=10^c
theorem Zg9(c:Nat):Zg8 (c+1)=Zg8 c*10:=by unfold Zg8;rw[Nat.pow_succ]
theorem ZjD{c:Nat}(h:c≤9):Zg8 c≤1000000000:=by unfold Zg8;exact Nat.le_trans (Nat.pow_le_pow_right (by omega) h) (by omega)
def Zm7(l:List UInt8)(at_:Nat)(F:Nat×Nat×Int)(w:World)(n c:Value)(wr:World):Prop:=
 ∃(m k:Nat),n=.int .i64 m∧c=.int .i64 k∧wr=w.iter ⟨(l.drop at_).toArray⟩ k∧k≤9∧at_+k≤l.length∧m<Zg8 k∧nm at_ (l.drop (at_+k)) m k=F
theorem Zci(l:List UInt8)(at_:Nat)(w:World)(hs:l.length≤100000)(hat:at_≤l.length):
 Calls Tryz.prog 156 #[.string ⟨l.toArray⟩,.int .i64 at_] w fun e w'=>
  e=.returned (.tuple #[.int .i64 (nm at_ (l.drop at_) 0 0).1,.int .i64 (nm at_ (l.drop at_) 0 0).2.1,.int .i64 (nm at_ (l.drop at_) 0 0).2.2])∧Fr nob w w':=by
 obtain⟨F,hF⟩:∃F,nm at_ (l.drop at_) 0 0=F:=⟨_,rfl⟩;rw[hF];have HF:=hid hF;clear hF;have ho:(decide ((at_:Int)<0)||decide ((l.length:Int)<at_))=false:=by simp;omega
 have HO:=hid ho;clear ho;go_enter Tryz.func156,Tryz.ntmps156
 go_wp2_with(go_at_call 128;refine(over_any _ _ w (by omega)).mono ?_;rw[HO.out];rintro e w' ⟨rfl,rfl⟩)
 go_loopw [7,8] (fun n c wr=>Zm7 l at_ F w n c wr) (fun _ c _=>10-(intOf c).toNat)
 case atStart=>exact⟨0,0,rfl,rfl,rfl,by omega,by omega,by decide,HF.out⟩
 case round=>
  obtain⟨m,k,rfl,rfl,rfl,hk,hle,hm,hb⟩:=hrel;by_cases hlt:at_+k<l.length
  ·have hk2:k<(l.drop at_).length:=by rw[List.length_drop];omega
   have hk3:k<(ByteArray.mk (l.drop at_).toArray).size:=by rw[Zbx];exact hk2
   have hget:(ByteArray.mk (l.drop at_).toArray)[k]'hk3=l[at_+k]:=by rw[ZmY];exact List.getElem_drop
   by_cases hd:48≤l[at_+k].toNat∧l[at_+k].toNat≤57
   ·obtain⟨hd1,hd2⟩:=hd;have hnx:∀ty,(Instr.next (.pointer (some ⟨w.heap.size,0,none⟩)) true ty).run Tryz.prog (w.iter ⟨(l.drop at_).toArray⟩ k)=.ok (.tuple #[.bool true,.int .i64 k,.int .i32 l[at_+k].toNat]) (w.iter ⟨(l.drop at_).toArray⟩ (k+1)):=fun ty=>by
     rw[run_next_ascii w _ k ty hk3 (by rw[hget];omega),hget]
    by_cases hc:k=9
    ·subst hc;rw[Zk0 hlt ⟨hd1,hd2⟩]at hb;subst hb;clear hk2 hk3 hget hm;go_wp2
     go_ret3
     exact⟨rfl,Zbz (Fr.refl _ _) _ _⟩
    ·have hc2:((k:Int)==9)=false:=by simp;omega
     rw[Zk1 hlt ⟨hd1,hd2⟩ hc]at hb;have hk8:k≤8:=by omega
     have hp:=ZjD hk;have hps:=Zg9 k;have HB:=hid hb;have HP:=hid hps;clear hb hk2 hk3 hget hc hps;have hm2:m<1000000000:=by omega
     go_wp2
     go_roundw
     case rel=>
      refine⟨m*10+(l[at_+k].toNat-48),k+1,?_,by go_num,rfl,by omega,by omega,by rw[HP.out];omega,HB.out⟩
      go_num
     case measure=>simp[intOf];omega
   ·rw[Zm6 hlt hd]at hb;obtain⟨r,p,hr,hnx⟩:∃(r:Int) (p:Nat),(r<48∨57<r)∧∀ty,(Instr.next (.pointer (some ⟨w.heap.size,0,none⟩)) true ty).run Tryz.prog (w.iter ⟨(l.drop at_).toArray⟩ k)=.ok (.tuple #[.bool true,.int .i64 k,.int .i32 r]) (w.iter ⟨(l.drop at_).toArray⟩ p):=by
     by_cases ha:l[at_+k].toNat<128
     ·exact⟨l[at_+k].toNat,k+1,by omega,fun ty=>by rw[run_next_ascii w _ k ty hk3 (by rw[hget];exact ha),hget]⟩
     ·have hh:=decode_high (ByteArray.mk (l.drop at_).toArray) k hk3 (by rw[hget];omega);exact⟨_,_,by omega,fun ty=>run_next_any w _ k ty hk3⟩
    clear hk2 hk3 hget hd hm;by_cases hc:k=0
    ·subst hc;rw[if_pos rfl]at hb;subst hb;rcases hr with hr|hr
     ·go_wp2
      go_ret3
      exact⟨rfl,Zbz (Fr.refl _ _) _ _⟩
     ·have hr':48≤r:=by omega
      go_wp2
      go_ret3
      exact⟨rfl,Zbz (Fr.refl _ _) _ _⟩
    ·rw[if_neg hc]at hb;subst hb;have hc2:((k:Int)==0)=false:=by simp;omega
     clear hc;rcases hr with hr|hr
     ·go_wp2
      go_ret3
      exact⟨by simp,Zbz (Fr.refl _ _) _ _⟩
     ·have hr':48≤r:=by omega
      go_wp2
      go_ret3
      exact⟨by simp,Zbz (Fr.refl _ _) _ _⟩
  ·rw[Zl4 (by omega)]at hb;have hnx:∀ty,(Instr.next (.pointer (some ⟨w.heap.size,0,none⟩)) true ty).run Tryz.prog (w.iter ⟨(l.drop at_).toArray⟩ k)=.ok (.tuple #[.bool false]) (w.iter ⟨(l.drop at_).toArray⟩ k):=fun ty=>run_next_end w _ k ty (by rw[Zbx,List.length_drop];omega);clear hm;by_cases hc:k=0
   ·subst hc;rw[if_pos rfl]at hb;subst hb;go_wp2
    go_ret3
    exact⟨rfl,Zbz (Fr.refl _ _) _ _⟩
   ·rw[if_neg hc]at hb;subst hb;have hc2:((k:Int)==0)=false:=by simp;omega
    clear hc;go_wp2
    go_ret3
    exact⟨by simp,Zbz (Fr.refl _ _) _ _⟩
def ln(l:List UInt8):Nat→Nat→List UInt8→List UInt8×Nat×Int
 |0,_,_=>([],0,0)
 |n+1,k,out=>
  match l[k]? with
  |none=>(out++[10],min (k+1) l.length,0)
  |some c=>
   if c=10 then(out++[10],min (k+1) l.length,0)
   else if c=92 then(match l[k+1]? with|none=>([],k,11)|some x=>ln l n (k+2) (out++[x]))
   else ln l n (k+1) (out++[c])
theorem Zk2{l:List UInt8}{n k:Nat}{out:List UInt8}(h:l.length≤k):ln l (n+1) k out=(out++[10],min (k+1) l.length,0):=by rw[ln,List.getElem?_eq_none h]
theorem Zm8{l:List UInt8}{n k:Nat}{out:List UInt8}(h:k<l.length)(e:l[k]=10):ln l (n+1) k out=(out++[10],min (k+1) l.length,0):=by
 rw[ln,List.getElem?_eq_getElem h];simp[e]
theorem Zk3{l:List UInt8}{n k:Nat}{out:List UInt8}(h:k<l.length)(e:l[k]=92)(h2:l.length≤k+1):ln l (n+1) k out=([],k,11):=by
 rw[ln,List.getElem?_eq_getElem h,List.getElem?_eq_none h2];simp[e]
theorem Zl5{l:List UInt8}{n k:Nat}{out:List UInt8}(h:k<l.length)(e:l[k]=92)(h2:k+1<l.length):ln l (n+1) k out=ln l n (k+2) (out++[l[k+1]]):=by
 rw[ln,List.getElem?_eq_getElem h,List.getElem?_eq_getElem h2];simp[e]
theorem Zl6{l:List UInt8}{n k:Nat}{out:List UInt8}(h:k<l.length)(e:l[k]≠10)(e2:l[k]≠92):ln l (n+1) k out=ln l n (k+1) (out++[l[k]]):=by
 rw[ln,List.getElem?_eq_getElem h];simp only;rw[if_neg e,if_neg e2]
def Zm9(l:List UInt8)(F:List UInt8×Nat×Int)(w:World)(n:Nat)(at_:Value)(wr:World):Prop:=
 ∃(k:Nat) (out:List UInt8) (g:Option Nat),at_=.int .i64 k∧l.length<n+k∧k≤l.length∧out.length≤k∧Bb w.heap.size out g wr∧Fr nob w wr∧(∀j,g=some j→w.heap.size≤j)∧ln l n k out=F
theorem Zh4(l:List UInt8)(at_:Nat)(w:World)(hs:l.length≤100000)(hat:at_≤l.length):
 Calls Tryz.prog 117 #[.string ⟨l.toArray⟩,.int .i64 at_] w fun e w'=>
  e=.returned (.tuple #[.string ⟨(ln l (l.length+1) at_ []).1.toArray⟩,.int .i64 (ln l (l.length+1) at_ []).2.1,.int .i64 (ln l (l.length+1) at_ []).2.2])∧Fr nob w w':=by
 obtain⟨F,hF⟩:∃F,ln l (l.length+1) at_ []=F:=⟨_,rfl⟩;rw[hF];have HF:=hid hF;clear hF;have ho:(decide ((at_:Int)<0)||decide ((l.length:Int)<at_))=false:=by simp;omega
 have HO:=hid ho;clear ho;go_enter Tryz.func117,Tryz.ntmps117
 go_wp2_with(go_at_call 128;refine(over_any _ _ w (by omega)).mono ?_;rw[HO.out];rintro e w' ⟨rfl,rfl⟩)
 go_loopg [1] (l.length+1) (fun n a wr=>Zm9 l F w n a wr)
 case atStart=>exact⟨at_,[],none,rfl,by omega,hat,Nat.zero_le _,Bb.new _,(Fr.refl _ _).alloc _,fun _ h=>(by cases h),HF.out⟩
 case round=>
  obtain⟨k,out,g,rfl,hn,hk,hout,hr,hfr,hg,hb⟩:=hrel;obtain⟨m,rfl⟩:∃m,gk=m+1:=⟨gk-1,by omega⟩;have HR:=hid hr;clear hr;have HFR:=hid hfr;clear hfr;have HG:=hid hg;clear hg;by_cases hlt:k<l.length
  ·by_cases h10:l[k]=10
   ·rw[Zm8 hlt h10]at hb;subst hb;have t1:((l[k].toNat:Int) !=10)=false:=tn_eq (b:=10) h10;clear h10
    go_wp2_with fail
    refine(bb_writeByte _ out 10 g _ (by omega) HR.out (by omega)).mono ?_;rintro e w1 ⟨rfl,g1,h1,hf1,hg1⟩;have HB1:=hid h1;have HF1:=hid (ZcL (g':=none) (Nat.le_refl _) HFR.out HG.out hf1);have HG1:=hid (ZdL HFR.out HG.out hg1);clear h1 hf1 hg1
    go_wp2_with fail
    refine(bb_string _ _ g1 _ HB1.out).mono ?_;rintro e w2 ⟨rfl,hf2⟩;have HF2:=hid hf2;clear hf2;go_wp2
    go_ret3
    exact⟨by simp;try omega,HF1.out.trans HF2.out (fun i hi h=>by have:=HG1.out i h.symm;omega)⟩
   ·have t1:((l[k].toNat:Int) !=10)=true:=ZlY (b:=10) h10;by_cases h92:l[k]=92
    ·have t2:((l[k].toNat:Int)==92)=true:=by rw[h92];rfl
     by_cases hend:k+1<l.length
     ·rw[Zl5 hlt h92 hend]at hb;have t3:((k:Int)+1==l.length)=false:=by simp;omega
      have hbd:=Zb1 l[k+1];have hbk:=hid (ZaI l[k+1]);have HB:=hid hb;clear hb h92 h10;have hlt':(k:Int)+1<l.length:=by omega
      go_wp2_with fail
      refine(bb_writeByte _ out _ g _ hbd HR.out (by omega)).mono ?_;rintro e w1 ⟨rfl,g1,h1,hf1,hg1⟩;rw[hbk.out]at h1;go_wp2
      go_roundg m
      case measure=>omega
      case rel=>exact⟨k+2,_,g1,by go_num,by omega,by omega,Zm5 hout,h1,ZcL (g':=none) (Nat.le_refl _) HFR.out HG.out hf1,ZdL HFR.out HG.out hg1,HB.out⟩
     ·rw[Zk3 hlt h92 (by omega)]at hb;subst hb;have t3:((k:Int)+1==l.length)=true:=by simp;omega
      clear h10 h92;go_wp2
      go_ret3
      exact⟨by simp,HFR.out⟩
    ·have t2:((l[k].toNat:Int)==92)=false:=ZG h92;rw[Zl6 hlt h10 h92]at hb;have hbd:=Zb1 l[k];have hbk:=hid (ZaI l[k]);have HB:=hid hb;clear hb h92 h10
     go_wp2_with fail
     refine(bb_writeByte _ out _ g _ hbd HR.out (by omega)).mono ?_;rintro e w1 ⟨rfl,g1,h1,hf1,hg1⟩;rw[hbk.out]at h1;go_wp2
     go_roundg m
     case measure=>omega
     case rel=>exact⟨k+1,_,g1,by go_num,by omega,by omega,ZnG hout,h1,ZcL (g':=none) (Nat.le_refl _) HFR.out HG.out hf1,ZdL HFR.out HG.out hg1,HB.out⟩
  ·rw[Zk2 (by omega)]at hb;subst hb
   go_wp2_with fail
   refine(bb_writeByte _ out 10 g _ (by omega) HR.out (by omega)).mono ?_;rintro e w1 ⟨rfl,g1,h1,hf1,hg1⟩;have HB1:=hid h1;have HF1:=hid (ZcL (g':=none) (Nat.le_refl _) HFR.out HG.out hf1);have HG1:=hid (ZdL HFR.out HG.out hg1);clear h1 hf1 hg1
   go_wp2_with fail
   refine(bb_string _ _ g1 _ HB1.out).mono ?_;rintro e w2 ⟨rfl,hf2⟩;have HF2:=hid hf2;clear hf2;go_wp2
   go_ret3
   exact⟨by simp;try omega,HF1.out.trans HF2.out (fun i hi h=>by have:=HG1.out i h.symm;omega)⟩
end Go.Proofs.YtkfddjopbocpkaaGreatDoor
