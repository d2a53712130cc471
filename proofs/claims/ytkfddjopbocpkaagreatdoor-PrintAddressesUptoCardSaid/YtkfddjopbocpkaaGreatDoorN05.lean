/- Lemmas of this claim. -/
import Derived.Lib.IndexMore
import Derived.Laws.RangeAny
import Derived.Deep.RegionWith
import Derived.Test.YtkfddjopbocpkaaGreatDoorN02
import Derived.Test.YtkfddjopbocpkaaGreatDoorN04
set_option linter.unusedVariables false
set_option linter.unusedSimpArgs false
set_option maxRecDepth 100000
set_option maxHeartbeats 4000000
namespace Go.Proofs.YtkfddjopbocpkaaGreatDoor
open Go.RowKit
def fnd(l:List UInt8)(k:UInt8):Nat→Nat→Option Nat
 |0,_=>none
 |n+1,p=>if p+1<l.length then(if l[p]? =some k∧l[p+1]? =some 93 then some p else fnd l k n (p+1))else none
structure It where
 set:S4
 one:Option UInt8
 next:Nat
def ZjX(c:UInt8):Bool:=c==58||c==61||c==46
def skp(k:UInt8):Nat:=if k=58 then 0 else 1
def nam(l:List UInt8)(at_ e:Nat):List UInt8:=(l.drop (at_+2)).take (e-(at_+2))
def itmN(l:List UInt8)(at_:Nat)(k:UInt8):(Int×Nat)⊕It:=
 match fnd l k (l.length+1) (at_+2+skp k)with
 |none=>.inl (5,l.length)
 |some e=>
  if k=58 then(match Zak ⟨(nam l at_ e).toArray⟩with|none=>.inl (6,at_)|some p=>.inr ⟨pk p 256,none,e+2⟩)
  else(match nam l at_ e with|[b]=>.inr ⟨spn b.toNat b.toNat,if k=46 then some b else none,e+2⟩|_=>.inl (6,at_))
def itm(l:List UInt8)(at_:Nat):(Int×Nat)⊕It:=
 match l[at_]? with
 |none=>.inl (5,l.length)
 |some c=>match l[at_+1]? with
  |none=>.inr ⟨spn c.toNat c.toNat,some c,at_+1⟩
  |some k=>if c=91∧ZjX k=true then itmN l at_ k else .inr ⟨spn c.toNat c.toNat,some c,at_+1⟩
def rng(l:List UInt8)(k:Nat):Bool:=decide (k+1<l.length)&&(l[k]? ==some 45)&& !(l[k+1]? ==some 93)
def prt(l:List UInt8)(at_:Nat):(Int×Nat)⊕(S4×Nat):=
 match itm l at_ with
 | .inl e=>.inl e
 | .inr x=>if rng l x.next then
  (match itm l (x.next+1)with
  | .inl e=>.inl e
  | .inr y=>match x.one,y.one with
    |some a,some b=>if a.toNat≤b.toNat then .inr (spn a.toNat b.toNat,y.next)else .inl (1,at_)
    |_,_=>.inl (1,at_))
   else .inr (x.set,x.next)
def lop(l:List UInt8):Nat→Nat→S4→(Int×Nat)⊕(S4×Nat)
 |0,_,_=>.inl (0,0)
 |n+1,at_,out=>if l[at_]? =some 93 then .inr (out,at_)else
  match prt l at_ with| .inl e=>.inl e| .inr x=>lop l n x.2 (out.or x.1)
def prs(l:List UInt8)(at_:Nat):(Int×Nat)⊕(S4×Nat):=
 let at':=if l[at_]? =some 94 then at_+1 else at_
 match prt l at' with
 | .inl e=>.inl e
 | .inr x=>match lop l (l.length+1) x.2 x.1 with
   | .inl e=>.inl e
   | .inr y=>.inr (if l[at_]? =some 94 then y.1.not else y.1,y.2+1)
theorem ZcQ{l:List UInt8}{k:UInt8}:∀{n p e:Nat},fnd l k n p=some e→p≤e∧e+1<l.length∧l[e]? =some k∧l[e+1]? =some 93∧∀j,p≤j→j<e→¬(l[j]? =some k∧l[j+1]? =some 93)
 |0,p,e,h=>by simp[fnd]at h
 |n+1,p,e,h=>by
  rw[fnd]at h;split at h
  ·next hl=>
   split at h
   ·next hk=>injection h with h;subst h;exact⟨Nat.le_refl _,hl,hk.1,hk.2,fun j h1 h2=>by omega⟩
   ·next hk=>
    obtain⟨h1,h2,h3,h4,h5⟩:=ZcQ h;refine⟨by omega,h2,h3,h4,fun j hj hje=> ?_⟩;rcases Nat.eq_or_lt_of_le hj with rfl|hj
    ·exact hk
    ·exact h5 j hj hje
  ·cases h
theorem fnd_none{l:List UInt8}{k:UInt8}:∀{n p:Nat},l.length<n+p→fnd l k n p=none→∀j,p≤j→¬(l[j]? =some k∧l[j+1]? =some 93)
 |0,p,hn,_,j,hj=>fun h=>by
  have:=(List.getElem?_eq_some_iff.1 h.1).1;omega
 |n+1,p,hn,h,j,hj=>by
  rw[fnd]at h;split at h
  ·split at h
   ·cases h
   ·next hk=>
    rcases Nat.eq_or_lt_of_le hj with rfl|hj
    ·exact hk
    ·exact fnd_none (by omega) h j hj
  ·next hl=>exact fun hc=>by have:=(List.getElem?_eq_some_iff.1 hc.2).1;omega
theorem Zpm(l:List UInt8)(p i:Nat)(k:UInt8):Lib.occAt (l.drop p) [k,93] i=true↔l[p+i]? =some k∧l[p+i+1]? =some 93:=by
 unfold Lib.occAt;rw[List.drop_drop];have e1:l[p+i]? =(l.drop (p+i))[0]? :=by simp
 have e2:l[p+i+1]? =(l.drop (p+i))[1]? :=by simp
 rw[e1,e2];cases h:l.drop (p+i)with
 |nil=>simp
 |cons a r=>
  cases r with
  |nil=>simp
  |cons b r=>
   simp[List.isPrefixOf];constructor<;>(rintro⟨h1,h2⟩;exact⟨h1.symm,h2.symm⟩)
theorem Ze4(l:List UInt8)(k:UInt8)(p:Nat)(hp:p≤l.length):Lib.index (l.drop p) [k,93]=match fnd l k (l.length+1) p with|some e=>(e:Int)-p|none=> -1:=by
 cases h:fnd l k (l.length+1) p with
 |none=>
  have hn:=fnd_none (by omega) h;refine Lib.index_none fun j hj=> ?_;cases ho:Lib.occAt (l.drop p) [k,93] j with
  |false=>rfl
  |true=>exact absurd ((Zpm l p j k).1 ho) (hn (p+j) (by omega))
 |some e=>
  obtain⟨h1,h2,h3,h4,h5⟩:=ZcQ h;have:=Lib.index_first (s:=l.drop p) (sub:=[k,93]) (i:=e-p) (by simp;omega) ((Zpm l p (e-p) k).2 ⟨by rw[show p+(e-p)=e by omega];exact h3,by rw[show p+(e-p)=e by omega];exact h4⟩) (fun j hj=>by
   cases ho:Lib.occAt (l.drop p) [k,93] j with
   |false=>rfl
   |true=>exact absurd ((Zpm l p j k).1 ho) (h5 (p+j) (by omega) (by omega)))
  rw[this];simp only;omega
theorem Zl2{l:List UInt8}{a e:Nat}{k c:UInt8}(hk:k≠58)(hf:fnd l k (l.length+1) (a+2+1)=some e)(hn:nam l a e=[c]):itmN l a k=.inr ⟨spn c.toNat c.toNat,if k=46 then some c else none,e+2⟩:=by
 unfold itmN skp;rw[if_neg hk,hf];simp only;rw[if_neg hk,hn]
theorem Zl3{l:List UInt8}{a e:Nat}{k:UInt8}(hk:k≠58)(hf:fnd l k (l.length+1) (a+2+1)=some e)(hn:(nam l a e).length≠1):itmN l a k=.inl (6,a):=by
 unfold itmN skp;rw[if_neg hk,hf];simp only;rw[if_neg hk];split
 ·next h=>rw[h]at hn;simp at hn
 ·rfl
theorem Zl4{l:List UInt8}{a e:Nat}{p:Int→Bool}(hf:fnd l 58 (l.length+1) (a+2)=some e)(hn:Zak ⟨(nam l a e).toArray⟩=some p):itmN l a 58=.inr ⟨pk p 256,none,e+2⟩:=by
 unfold itmN skp;rw[if_pos rfl,Nat.add_zero,hf];simp only;rw[if_pos trivial,hn]
theorem Zi2{l:List UInt8}{a e:Nat}(hf:fnd l 58 (l.length+1) (a+2)=some e)(hn:Zak ⟨(nam l a e).toArray⟩=none):itmN l a 58=.inl (6,a):=by
 unfold itmN skp;rw[if_pos rfl,Nat.add_zero,hf];simp only;rw[if_pos trivial,hn]
theorem ZjY{l:List UInt8}{a:Nat}{k:UInt8}(hf:fnd l k (l.length+1) (a+2+skp k)=none):itmN l a k=.inl (5,l.length):=by
 unfold itmN;rw[hf]
theorem ZjZ{l:List UInt8}{a:Nat}{k:UInt8}{x:It}(h:itmN l a k=.inr x):a<x.next∧x.next≤l.length∧x.set.fit:=by
 unfold itmN at h;cases hf:fnd l k (l.length+1) (a+2+skp k)with
 |none=>rw[hf]at h;cases h
 |some e=>
  obtain⟨h1,h2,_⟩:=ZcQ hf;rw[hf]at h;simp only at h;split at h
  ·split at h
   ·cases h
   ·injection h with h;subst h;exact⟨by simp only;omega,by simp only;omega,Zic _ _⟩
  ·split at h
   ·injection h with h;subst h;exact⟨by simp only;omega,by simp only;omega,fit_spn _ _⟩
   ·cases h
theorem ZdF{l:List UInt8}{a:Nat}{x:It}(h:itm l a=.inr x):a<x.next∧x.next≤l.length∧x.set.fit:=by
 unfold itm at h;split at h
 ·cases h
 ·next c hc=>
  have hl:=(List.getElem?_eq_some_iff.1 hc).1;split at h
  ·injection h with h;subst h;exact⟨Nat.lt_succ_self _,hl,fit_spn _ _⟩
  ·split at h
   ·exact ZjZ h
   ·injection h with h;subst h;exact⟨Nat.lt_succ_self _,hl,fit_spn _ _⟩
theorem Ze5{l:List UInt8}{a:Nat}{x:It}{c:UInt8}(h:itm l a=.inr x)(ho:x.one=some c):x.set=spn c.toNat c.toNat:=by
 unfold itm at h;split at h
 ·cases h
 ·split at h
  ·injection h with h;subst h;injection ho with ho;subst ho;rfl
  ·split at h
   ·unfold itmN at h;split at h
    ·cases h
    ·split at h
     ·split at h
      ·cases h
      ·injection h with h;subst h;cases ho
     ·split at h
      ·injection h with h;subst h;simp only at ho;split at ho
       ·injection ho with ho;subst ho;rfl
       ·cases ho
      ·cases h
   ·injection h with h;subst h;injection ho with ho;subst ho;rfl
theorem prt_next{l:List UInt8}{a:Nat}{x:S4×Nat}(h:prt l a=.inr x):a<x.2∧x.2≤l.length∧x.1.fit:=by
 unfold prt at h;split at h
 ·cases h
 ·next y hy=>
  have h1:=ZdF hy;split at h
  ·split at h
   ·cases h
   ·next z hz=>
    have h2:=ZdF hz;split at h
    ·split at h
     ·injection h with h;subst h;exact⟨by simp only;omega,h2.2.1,fit_spn _ _⟩
     ·cases h
    ·cases h
  ·injection h with h;subst h;exact h1
theorem lop_next{l:List UInt8}:∀{n a:Nat} {o:S4} {x:S4×Nat},o.fit→lop l n a o=.inr x→a≤x.2∧x.2<l.length∧x.1.fit
 |0,a,o,x,ho,h=>by simp[lop]at h
 |n+1,a,o,x,ho,h=>by
  rw[lop]at h;split at h
  ·next hc=>injection h with h;subst h;exact⟨Nat.le_refl _,(List.getElem?_eq_some_iff.1 hc).1,ho⟩
  ·split at h
   ·cases h
   ·next y hy=>
    have h1:=prt_next hy;have h2:=lop_next (Zph _ _) h;exact⟨by omega,h2.2⟩
def ZaF(c:UInt8):List UInt8:=if c.toNat<128 then[c]else[(192+c.toNat/64).toUInt8,(128+c.toNat%64).toUInt8]
def Zco:List UInt8→List UInt8
 |[]=>[]
 |c::r=>ZaF c++Zco r
section
variable (p l:List UInt8)
end
def bod(l:List UInt8)(a:Nat):(Int×Nat)⊕(S4×Nat):=match prt l a with
 | .inl z=>.inl z
 | .inr x=>lop l (l.length+1) x.2 x.1
def Zp7(d:Bool):(Int×Nat)⊕(S4×Nat)→(Int×Nat)⊕(S4×Nat)
 | .inl z=>.inl z
 | .inr y=>.inr (if d then y.1.not else y.1,y.2+1)
theorem Zpn{l:List UInt8}{a:Nat}(h:l[a]? =some 94):prs l a=Zp7 true (bod l (a+1)):=by
 unfold prs bod;simp only[h,if_true];cases prt l (a+1)with
 |inl z=>rfl
 |inr x=>simp only;cases lop l (l.length+1) x.2 x.1<;>rfl
theorem Zpo{l:List UInt8}{a:Nat}(h:l[a]?≠some 94):prs l a=Zp7 false (bod l a):=by
 unfold prs bod;simp only[if_neg h];cases prt l a with
 |inl z=>rfl
 |inr x=>simp only;cases lop l (l.length+1) x.2 x.1<;>rfl
section
variable (t:List UInt8) {l:List UInt8}
end
open Go.Lib (hid)
theorem strings_HasPrefixP(l p:List UInt8)(w:World)(hs:l.length≤9223372036854775807)(hp:p.length≤9223372036854775807):
 Calls Tryz.prog 66 #[.string ⟨l.toArray⟩,.string ⟨p.toArray⟩] w fun e w'=>e=.returned (.bool (p.isPrefixOf l))∧w=w':=by
 have HS:=hid hs;have HP:=hid hp;have hx:=Zm8 l 0 p.length;simp only[List.drop_zero,Nat.sub_zero]at hx;go_enter Tryz.func66,Tryz.ntmps66;go_wp2
 all_goals go_ret
 ·exact⟨ret_bool (ZdX (by assumption)),rfl⟩
 ·exact⟨ret_bool (ZdY (by assumption)),rfl⟩
theorem strings_IndexByte(l:List UInt8)(c:Int)(w:World):
 Calls Tryz.prog 56 #[.string ⟨l.toArray⟩,.int .u8 c] w fun e w'=>e=.returned (.int .i64 (Lib.indexByte l c.toNat.toUInt8))∧w=w':=by
 go_enter Tryz.func56,Tryz.ntmps56;go_wp2;rw[run_callFunc_extern Tryz.func113 (by kernel_rfl) (by kernel_rfl) (by kernel_rfl) (e:=Extern.BytealgIndexByte.indexByte) (by kernel_rfl),Lib.run_indexByteString];simp only[Result.andThen];rw[Oper.upon_value];go_wp2;go_ret;exact⟨rfl,rfl⟩
theorem bracket_any(l:List UInt8)(w:World)(hs:l.length≤4611686018427387904)(h1:1≤l.length):
 Calls Tryz.prog 176 #[.string ⟨l.toArray⟩] w fun e w'=>e=.returned (.int .i64 (brE l 0))∧w=w':=by
 have i0:∀w,(Instr.index 276 (.agg #[.string ⟨#[94]⟩,.string ⟨#[93]⟩]) (.int .i64 0)).run Tryz.prog w=.ok (.string ⟨#[94]⟩) w:=fun _=>by kernel_rfl
 have i1:∀w,(Instr.index 276 (.agg #[.string ⟨#[94]⟩,.string ⟨#[93]⟩]) (.int .i64 1)).run Tryz.prog w=.ok (.string ⟨#[93]⟩) w:=fun _=>by kernel_rfl
 go_enter Tryz.func176,Tryz.ntmps176;go_wp2
 go_loop [3,8] (fun b i=>(b=.int .i64 1∧i=.int .i64 0)∨(b=.int .i64 (adv l 94 1)∧i=.int .i64 1)∨(b=.int .i64 (adv l 93 (adv l 94 1))∧i=.int .i64 2)) (fun _ i=>2-(intOf i).toNat)
 case atStart=>exact .inl ⟨rfl,rfl⟩
 case round=>
  rcases hrel with⟨rfl,rfl⟩|⟨rfl,rfl⟩|⟨rfl,rfl⟩
  ·go_wp2_with(go_at_call 66;refine(strings_HasPrefixP _ _ w (by simp;omega) (by simp)).mono ?_;rintro e w' ⟨rfl,rfl⟩)
   ·have e:=Zm9 (l:=l) (c:=94) (k:=1) (by rw[List.drop_one];assumption)
    go_round
    case rel=>exact .inr (.inl ⟨by rw[e];rfl,rfl⟩)
    case measure=>simp[intOf]
   ·have e:=Zna (l:=l) (c:=94) (k:=1) (by rw[List.drop_one];assumption)
    go_round
    case rel=>exact .inr (.inl ⟨by rw[e];rfl,rfl⟩)
    case measure=>simp[intOf]
  ·have ha:adv l 94 1≤l.length:=ZjP h1;go_wp2_with(go_at_call 66;refine(strings_HasPrefixP _ _ w (by simp;omega) (by simp)).mono ?_;rintro e w' ⟨rfl,rfl⟩)
   ·have e:=Zm9 (l:=l) (c:=93) (k:=adv l 94 1) (by assumption)
    go_round
    case rel=>exact .inr (.inr ⟨by rw[e];go_num,rfl⟩)
    case measure=>simp[intOf]
   ·have e:=Zna (l:=l) (c:=93) (k:=adv l 94 1) (by assumption)
    go_round
    case rel=>exact .inr (.inr ⟨by rw[e],rfl⟩)
    case measure=>simp[intOf]
  ·have ha:adv l 93 (adv l 94 1)≤l.length:=ZjP (ZjP h1);have hb:=Zb1 (l.drop (adv l 93 (adv l 94 1))) 93;have hn:=hid (ZeX (c:=93) ha);have hl:=ZoY (c:=93) ha;have hg:=Znb (l:=l) (c:=93) (k:=adv l 93 (adv l 94 1));simp only[List.length_drop]at hb;go_wp2_with(go_at_call 56;refine(strings_IndexByte _ _ w).mono ?_;rintro e w' ⟨rfl,rfl⟩)
   ·have a:Lib.indexByte (List.drop (adv l 93 (adv l 94 1)) l) 93<0:=by assumption
    go_ret;refine⟨ZdT ?_,rfl⟩;have hn:=hn.out;unfold brE;simp only[Nat.zero_add];split at hn<;>omega
   ·have a:0≤Lib.indexByte (List.drop (adv l 93 (adv l 94 1)) l) 93:=by assumption
    go_ret;refine⟨ZdT ?_,rfl⟩;have hn:=hn.out;unfold brE;simp only[Nat.zero_add];split at hn<;>omega
def Rdr(b:Nat)(s:List UInt8)(at_:Nat)(out:List UInt8)(g:Option Nat)(w:World):Prop:=
 ∃cs,Zc3 5 262 b 2 cs out g w∧cs.size=4∧cs[0]? =some (.string ⟨s.toArray⟩)∧cs[1]? =some (.int .i64 at_)
theorem ZfE{n:Nat}(h:n=4):Zfx 262 n 2:=by subst h;unfold Zfx;kernel_rfl
theorem Rdr.drew{b:Nat}{s:List UInt8}{at_:Nat}{out:List UInt8}{g:Option Nat}{w:World}(h:Rdr b s at_ out g w):Rdr b s at_ out g w.drew:=h
theorem Rdr.cell0{b:Nat}{s:List UInt8}{at_:Nat}{out:List UInt8}{g:Option Nat}{w:World}(h:Rdr b s at_ out g w):w.cell? ⟨b,0,none⟩=some (.string ⟨s.toArray⟩):=by
 obtain⟨cs,⟨hb,_⟩,_,h0,_⟩:=h;exact cell_at hb h0
theorem Rdr.cell1{b:Nat}{s:List UInt8}{at_:Nat}{out:List UInt8}{g:Option Nat}{w:World}(h:Rdr b s at_ out g w):w.cell? ⟨b,1,none⟩=some (.int .i64 at_):=by
 obtain⟨cs,⟨hb,_⟩,_,_,h1⟩:=h;exact cell_at hb h1
theorem Rdr.thawed{b:Nat}{s:List UInt8}{at_:Nat}{out:List UInt8}{g:Option Nat}{w:World}(h:Rdr b s at_ out g w)(j:Nat):w.frozen? ⟨b,j,none⟩=false:=by
 obtain⟨cs,⟨hb,_⟩,_⟩:=h;exact unfrozen_at hb j
theorem Rdr.moved{b:Nat}{s:List UInt8}{at_:Nat}{out:List UInt8}{g:Option Nat}{w:World}(h:Rdr b s at_ out g w)(k:Nat):Rdr b s k out g (w.setCell ⟨b,1,none⟩ (.int .i64 k)):=by
 obtain⟨cs,⟨hb,ho,hp,v,hv,c,hg,a,hn⟩,hs,h0,h1⟩:=h;refine⟨cs.setIfInBounds 1 (.int .i64 k),⟨Za hb 1 _,by simpa using ho,?_,v,?_,?_,hg,a,hn⟩,by simpa using hs,?_,ZdU (by omega)⟩
 ·rw[Zau (by omega)];exact hp
 ·rw[Zau (by omega)];exact hv
 ·exact ownsRow_fr c ((Fr.refl (fun k=>k=b) w).setCell (p:=⟨b,1,none⟩) (fun _=>rfl) _) (fun k hk e=>a (by rw[←hg,hk,e]))
 ·rw[Zau (by omega)];exact h0
theorem Zd0(b:Nat)(s:List UInt8)(at_:Nat)(out l:List UInt8)(g:Option Nat)(w:World)(h:Rdr b s at_ out g w)(hlen:out.length+l.length≤140737488355328):
 Calls Tryz.prog 50 #[.pointer (some ⟨b,2,none⟩),.string ⟨l.toArray⟩] w fun e w'=>e=.returned (.tuple #[.int .i64 l.length,.nilIface])∧
  ∃g',Rdr b s at_ (out++l) g' w'∧Fr (fun k=>k=b∨some k=g) w w'∧(∀k,g'=some k→some k=g∨w.heap.size≤k):=by
 obtain⟨cs,hb,hs,h0,h1⟩:=h;refine(writeString_any _ b 2 cs out g l w hb (ZfE hs) hlen).mono ?_;rintro e w' ⟨rfl,v',a,hf,hn⟩;exact⟨rfl,_,⟨_,a,by rw[ZY];exact hs,by rw[ZbG _ _ _ _ (by omega) (by omega)];exact h0,by rw[ZbG _ _ _ _ (by omega) (by omega)];exact h1⟩,hf,hn⟩
theorem rdr_writeByte(b:Nat)(s:List UInt8)(at_:Nat)(out:List UInt8)(c:Int)(g:Option Nat)(w:World)(hc:0≤c∧c≤255)(h:Rdr b s at_ out g w)(hlen:out.length≤140737488355327):
 Calls Tryz.prog 77 #[.pointer (some ⟨b,2,none⟩),.int .u8 c] w fun e w'=>e=.returned .nilIface∧
  ∃g',Rdr b s at_ (out++[c.toNat.toUInt8]) g' w'∧Fr (fun k=>k=b∨some k=g) w w'∧(∀k,g'=some k→some k=g∨w.heap.size≤k):=by
 obtain⟨cs,hb,hs,h0,h1⟩:=h;refine(ZcK _ b 2 cs out g c w hc hb (ZfE hs) hlen).mono ?_;rintro e w' ⟨rfl,v',a,hf,hn⟩;exact⟨rfl,_,⟨_,a,by rw[ZY];exact hs,by rw[ZbG _ _ _ _ (by omega) (by omega)];exact h0,by rw[ZbG _ _ _ _ (by omega) (by omega)];exact h1⟩,hf,hn⟩
def ZgZ(b:Nat)(s:List UInt8)(at_:Nat)(out:List UInt8)(g:Option Nat)(w w':World):Prop:=
 ∃g',Rdr b s at_ out g' w'∧Fr (fun k=>k=b∨some k=g) w w'∧(∀k,g'=some k→some k=g∨w.heap.size≤k)
theorem copy_yes(b:Nat)(s:List UInt8)(at_ n:Nat)(out:List UInt8)(g:Option Nat)(w:World)(h:Rdr b s at_ out g w)(hs:s.length≤1000000)(ho:out.length≤1000000)(hn:at_+n≤s.length)
 (hi:Lib.indexByte ((s.drop at_).take n) 10<0):
 Calls Tryz.prog 177 #[.pointer (some ⟨b,0,none⟩),.int .i64 n] w fun e w'=>e=.returned (.bool true)∧ZgZ b s (at_+n) (out++(s.drop at_).take n) g w w':=by
 have c0:=h.cell0;have c1:=h.cell1;have H:=hid h;clear h;have hw:IntKind.i64.wrap ((at_:Int)+n)=at_+n:=IntWalk.i64_in _ (by omega);have c:=Zaf (P:=Tryz.prog) s (lo:=at_) (hi:=(at_:Int)+n) Tryz.underlying9 (by omega) (by omega) (by omega);go_enter Tryz.func177,Tryz.ntmps177;go_wp2
 go_still_tail 14,(by kernel_rfl)
 change wpList _ _ _ _ _ w.drew;go_wp2_with(go_at_call 56;refine(strings_IndexByte _ _ _).mono ?_;rintro e w' ⟨rfl,rfl⟩);refine(Zd0 b s at_ out ((s.drop at_).take n) g _ H.out.drew (by have:=List.length_take_le n (s.drop at_);omega)).mono ?_;rintro e w1 ⟨rfl,g',h1,hf,a⟩;have d1:=h1.cell1;have t1:=h1.thawed 1;have H1:=hid h1;clear h1;go_wp2;go_ret;refine⟨rfl,g',H1.out.moved (at_+n),?_,a⟩;exact(((Fr.refl _ w).drew).trans' hf).setCell (p:=⟨b,1,none⟩) (fun _=>Or.inl rfl) _
theorem copy_no(b:Nat)(s:List UInt8)(at_ n:Nat)(out:List UInt8)(g:Option Nat)(w:World)(h:Rdr b s at_ out g w)(hs:s.length≤1000000)(hn:at_+n≤s.length)
 (i:Nat) (hi:Lib.indexByte ((s.drop at_).take n) 10=i):
 Calls Tryz.prog 177 #[.pointer (some ⟨b,0,none⟩),.int .i64 n] w fun e w'=>e=.returned (.bool false)∧ZgZ b s (at_+i) out g w w':=by
 have c0:=h.cell0;have c1:=h.cell1;have t1:=h.thawed 1;have H:=hid h;clear h;have hw:IntKind.i64.wrap ((at_:Int)+n)=at_+n:=IntWalk.i64_in _ (by omega);have j:=Zaf (P:=Tryz.prog) s (lo:=at_) (hi:=(at_:Int)+n) Tryz.underlying9 (by omega) (by omega) (by omega);have a:=Zb1 ((s.drop at_).take n) 10;have c:((s.drop at_).take n).length≤n:=List.length_take_le _ _;have d:(i:Int)≤n:=by omega
 have f:(0:Int)≤i:=by omega
 clear a c;go_enter Tryz.func177,Tryz.ntmps177;go_wp2
 go_still_tail 14,(by kernel_rfl)
 change wpList _ _ _ _ _ w.drew;clear hw;go_wp2_with(go_at_call 56;refine(strings_IndexByte _ _ _).mono ?_;rintro e w' ⟨rfl,rfl⟩);go_ret;exact⟨rfl,g,(H.out.moved (at_+i)),((Fr.refl _ w).setCell (p:=⟨b,1,none⟩) (fun _=>Or.inl rfl) _).drew,fun k hk=>.inl hk.symm⟩
def esc(s:List UInt8)(d:UInt8)(rx:Bool)(at_:Nat)(out:List UInt8):Int×Nat×List UInt8:=
 match s[at_+1]? with
 |none=>(5,s.length,out)
 |some x=>if x=d then(0,at_+2,out++[x])else if x=10∧rx=true then(2,at_+1,out)else(0,at_+2,out++[92,x])
theorem escape_any(b:Nat)(s:List UInt8)(at_:Nat)(out:List UInt8)(d:UInt8)(rx:Bool)(g:Option Nat)(w:World)(h:Rdr b s at_ out g w)(hs:s.length≤1000000)(ho:out.length≤1000000)(hat:at_<s.length):
 Calls Tryz.prog 175 #[.pointer (some ⟨b,0,none⟩),.int .u8 d.toNat,.bool rx] w fun e w'=>
  e=.returned (.int .i64 (esc s d rx at_ out).1)∧ZgZ b s (esc s d rx at_ out).2.1 (esc s d rx at_ out).2.2 g w w':=by
 have c0:=h.cell0;have c1:=h.cell1;have t1:=h.thawed 1;by_cases f:at_+1=s.length
 ·have hE:esc s d rx at_ out=(5,s.length,out):=by unfold esc;rw[List.getElem?_eq_none (by omega)]
  rw[hE];clear hE;have ht:((at_:Int)+1==s.length)=true:=by simp;omega
  have H:=hid h;clear h;have HE:=hid f;clear f;go_enter Tryz.func175,Tryz.ntmps175;have hw:IntKind.i64.wrap ((at_:Int)+1)=at_+1:=IntWalk.i64_in _ (by omega);go_wp2
  go_still_tail 10,(by kernel_rfl)
  change wpList _ _ _ _ _ w.drew;clear hw;go_wp2;go_ret;exact⟨rfl,g,H.out.moved s.length,((Fr.refl _ w).setCell (p:=⟨b,1,none⟩) (fun _=>Or.inl rfl) _).drew,fun k hk=>.inl hk.symm⟩
 ·have r:at_+1<s.length:=by omega
  have hx:s[at_+1]? =some s[at_+1]:=List.getElem?_eq_getElem r;have ht:((at_:Int)+1==s.length)=false:=by simp;omega
  have v:(at_:Int)+1<s.length:=by omega
  have hw:IntKind.i64.wrap ((at_:Int)+1)=at_+1:=IntWalk.i64_in _ (by omega);have m:=Zcf s[at_+1];have x:(0:Int)≤(at_:Int)+1:=by omega
  have y:((at_:Int)+1).toNat=at_+1:=by omega
  have n:=hid (ZaY s[at_+1]);by_cases hd:s[at_+1]=d
  ·have hE:esc s d rx at_ out=(0,at_+2,out++[s[at_+1]]):=by unfold esc;rw[hx];simp only[hd,if_true]
   rw[hE];clear hE hx;have u:=Zcy hd;have H:=hid h;clear h;have HD:=hid hd;clear hd;go_enter Tryz.func175,Tryz.ntmps175;go_wp2
   go_quiet (fail)
   go_wp2
   go_quiet (fail)
   go_wp2_with fail;refine(rdr_writeByte b s at_ out _ g _ m (by exact H.out) (by omega)).mono ?_;rintro e w1 ⟨rfl,g',h1,hf,j⟩;rw[n.out]at h1;have d1:=h1.cell1;have t2:=h1.thawed 1;have H1:=hid h1;clear h1;go_wp2;go_ret;refine⟨rfl,g',H1.out.moved (at_+2),?_,j⟩;exact(((Fr.refl _ w).drewN _).trans' hf).setCell (p:=⟨b,1,none⟩) (fun _=>Or.inl rfl) _
  ·have u:=Zn hd;by_cases hn:s[at_+1]=10∧rx=true
   ·obtain⟨a,rfl⟩:=hn;have hE:esc s d true at_ out=(2,at_+1,out):=by unfold esc;rw[hx];simp only[hd,a,if_false,and_self,if_true];rw[if_neg (by rw[←a];exact hd)]
    rw[hE];clear hE hx;have c:((s[at_+1].toNat:Int)==10)=true:=by rw[a];rfl
    have H:=hid h;clear h;have HD:=hid hd;clear hd;clear a;go_enter Tryz.func175,Tryz.ntmps175;go_wp2
    go_quiet (fail)
    go_wp2
    go_quiet (fail)
    go_wp2;go_ret;refine⟨rfl,g,H.out.moved (at_+1),?_,fun k hk=>.inl hk.symm⟩;exact((Fr.refl _ w).setCell (p:=⟨b,1,none⟩) (fun _=>Or.inl rfl) _).drewN _
   ·have hE:esc s d rx at_ out=(0,at_+2,out++[92,s[at_+1]]):=by unfold esc;rw[hx];simp only[hd,if_false,hn]
    rw[hE];clear hE hx;have c:((s[at_+1].toNat:Int)==10)=false∨(((s[at_+1].toNat:Int)==10)=true∧rx=false):=by
     by_cases a:s[at_+1]=10
     ·right;exact⟨by rw[a];rfl,ZoX a hn⟩
     ·left;exact Zn a
    have H:=hid h;clear h;have HD:=hid hd;clear hd;clear hn;rcases c with c|⟨c,rfl⟩
    all_goals
     go_enter Tryz.func175,Tryz.ntmps175;go_wp2
     go_quiet (fail)
     go_wp2
     go_quiet (fail)
     go_wp2_with fail;refine(rdr_writeByte b s at_ out 92 g _ (by omega) (by exact H.out) (by omega)).mono ?_;rintro e w0 ⟨rfl,g0,h0,o,q⟩;go_wp2_with fail;refine(rdr_writeByte b s at_ _ _ g0 _ m h0 (by simp;omega)).mono ?_;rintro e w1 ⟨rfl,g',h1,hf,j⟩;rw[n.out]at h1;have d1:=h1.cell1;have t2:=h1.thawed 1;have H1:=hid h1;clear h1;have H0:=hid h0;clear h0;go_wp2;go_ret;have t:=o.size;have l:=H1.out;simp only[List.append_assoc,List.cons_append,List.nil_append]at l;refine⟨rfl,g',Rdr.moved l (at_+2),?_,fun k hk=> ?_⟩
     ·exact((((Fr.refl _ w).drewN _).trans' o).trans hf (fun i hi h=>h.imp_right fun h=>by rcases q i h.symm with h|h;exact h;simp[World.drewN]at h;omega)).setCell (p:=⟨b,1,none⟩) (fun _=>Or.inl rfl) _
     ·rcases j k hk with h|h
      ·exact q k h.symm
      ·exact .inr (by simp[World.drewN]at t;omega)
def bt(l:List UInt8)(d:UInt8)(rx:Bool):Nat→Nat→List UInt8→List UInt8×Nat×Int
 |0,_,_=>([],0,0)
 |n+1,k,out=>
  match l[k]? with
  |none=>([],l.length,5)
  |some c=>
   if c=d then(out,k+1,0)
   else if c=92 then(if(esc l d rx k out).1=0 then bt l d rx n (esc l d rx k out).2.1 (esc l d rx k out).2.2 else([],(esc l d rx k out).2.1,(esc l d rx k out).1))
   else
    let m:=if c=91∧rx=true then brE l k-k else 1
    let i:=Lib.indexByte ((l.drop k).take m) 10
    if i<0 then bt l d rx n (k+m) (out++(l.drop k).take m)else([],k+i.toNat,2)
theorem over_any(l:List UInt8)(at_:Int)(w:World)(hs:l.length≤1000000):
 Calls Tryz.prog 128 #[.string ⟨l.toArray⟩,.int .i64 at_] w fun e w'=>e=.returned (.bool (decide (at_<0)||decide ((l.length:Int)<at_)))∧w=w':=by
 go_enter Tryz.func128,Tryz.ntmps128;go_wp2
 all_goals go_ret
 all_goals simp_all
theorem Znu(w:World)(l:List UInt8)(k:Nat):Rdr w.heap.size l k [] none (w.alloc (.cells #[.string ⟨l.toArray⟩,.int .i64 k,.pointer none,.slice none 0 0] 262)):=
 ⟨_,⟨heap_alloc_new w _,by simp,.inl rfl,.slice none 0 0,rfl,World.ownsRow_nil _ _ _ _,rfl,by simp,fun _=>rfl⟩,rfl,rfl,rfl⟩
theorem rdr_string(b:Nat)(s:List UInt8)(at_:Nat)(out:List UInt8)(g:Option Nat)(w:World)(h:Rdr b s at_ out g w):
 Calls Tryz.prog 49 #[.pointer (some ⟨b,2,none⟩)] w fun e w'=>e=.returned (.string ⟨out.toArray⟩)∧w'.cell? ⟨b,1,none⟩=some (.int .i64 at_)∧Fr (fun k=>some k=g) w w':=by
 obtain⟨cs,hb,hs,h0,h1⟩:=h;refine(Zev _ b 2 cs out g w hb).mono ?_;rintro e w' ⟨rfl,hf⟩;obtain⟨a,_,_,v,_,_,_,c,_⟩:=hb;exact⟨rfl,cell_at (hf.heap a (fun e=>c e.symm)) h1,hf⟩
theorem ZoZ{l:List UInt8}{d:UInt8}{rx:Bool}{k:Nat}{out:List UInt8}(h:(esc l d rx k out).1=0):
 (esc l d rx k out).2.1=k+2∧k+2≤l.length∧(esc l d rx k out).2.2.length≤out.length+2:=by
 revert h;unfold esc
 cases hx:l[k+1]? with
 |none=>simp
 |some x=>
  have a:=(List.getElem?_eq_some_iff.1 hx).1;simp only;split
  ·intro _;refine⟨rfl,by omega,by simp⟩
  ·split
   ·intro h;simp at h
   ·intro _;refine⟨rfl,by omega,by simp⟩
def Zqg(l:List UInt8)(d:UInt8)(rx:Bool)(F:List UInt8×Nat×Int)(w:World)(n:Nat)(wr:World):Prop:=
 ∃(k:Nat) (out:List UInt8) (g:Option Nat),l.length<n+k∧k≤l.length∧out.length≤k∧Rdr w.heap.size l k out g wr∧Fr nob w wr∧(∀j,g=some j→w.heap.size≤j)∧bt l d rx n k out=F
theorem Znv{l:List UInt8}{d:UInt8}{rx:Bool}{n k:Nat}{out:List UInt8}(h:l.length≤k):bt l d rx (n+1) k out=([],l.length,5):=by
 rw[bt,List.getElem?_eq_none h]
theorem Zo0{l:List UInt8}{d:UInt8}{rx:Bool}{n k:Nat}{out:List UInt8}(h:k<l.length)(e:l[k]=d):bt l d rx (n+1) k out=(out,k+1,0):=by
 rw[bt,List.getElem?_eq_getElem h];simp[e]
theorem Zo1{l:List UInt8}{d:UInt8}{rx:Bool}{n k:Nat}{out:List UInt8}(h:k<l.length)(e:l[k]≠d)(e2:l[k]=92):
 bt l d rx (n+1) k out=(if(esc l d rx k out).1=0 then bt l d rx n (esc l d rx k out).2.1 (esc l d rx k out).2.2 else([],(esc l d rx k out).2.1,(esc l d rx k out).1)):=by
 rw[bt,List.getElem?_eq_getElem h];simp only;rw[if_neg e,if_pos e2]
theorem ZjT{l:List UInt8}{d:UInt8}{rx:Bool}{n k m:Nat}{out:List UInt8}(h:k<l.length)(e:l[k]≠d)(e2:l[k]≠92)(hm:(if l[k]=91∧rx=true then brE l k-k else 1)=m):
 bt l d rx (n+1) k out=(if Lib.indexByte ((l.drop k).take m) 10<0 then bt l d rx n (k+m) (out++(l.drop k).take m)else([],k+(Lib.indexByte ((l.drop k).take m) 10).toNat,2)):=by
 rw[bt,List.getElem?_eq_getElem h];simp only;rw[if_neg e,if_neg e2,hm]
theorem Zg0(l:List UInt8)(at_:Nat)(d:UInt8)(rx:Bool)(w:World)(hs:l.length≤100000)(hat:at_≤l.length):
 Calls Tryz.prog 147 #[.string ⟨l.toArray⟩,.int .i64 at_,.int .u8 d.toNat,.bool rx] w fun e w'=>
  e=.returned (.tuple #[.string ⟨(bt l d rx (l.length+1) at_ []).1.toArray⟩,.int .i64 (bt l d rx (l.length+1) at_ []).2.1,.int .i64 (bt l d rx (l.length+1) at_ []).2.2])∧Fr nob w w':=by
 obtain⟨F,hF⟩:∃F,bt l d rx (l.length+1) at_ []=F:=⟨_,rfl⟩;rw[hF];have HF:=hid hF;clear hF;have ho:(decide ((at_:Int)<0)||decide ((l.length:Int)<at_))=false:=by simp;omega
 have HO:=hid ho;clear ho;go_enter Tryz.func147,Tryz.ntmps147;go_wp2_with(go_at_call 128;refine(over_any _ _ w (by omega)).mono ?_;rw[HO.out];rintro e w' ⟨rfl,rfl⟩)
 go_loopg [12] (l.length+1) (fun n _ wr=>Zqg l d rx F w n wr)
 case atStart=>exact⟨at_,[],none,by omega,hat,Nat.zero_le _,Znu _ _ _,(Fr.refl _ _).alloc _,fun _ h=>(by cases h),HF.out⟩
 case round=>
  obtain⟨k,o,g,hn,hk,G,hr,B,hg,hb⟩:=hrel;obtain⟨m,rfl⟩:∃m,gk=m+1:=⟨gk-1,by omega⟩;have c0:=hr.cell0;have c1:=hr.cell1;have HR:=hid hr;clear hr;have f:=hid B;clear B;have HG:=hid hg;clear hg;by_cases v:k<l.length
  ·by_cases hd:l[k]=d
   ·rw[Zo0 v hd]at hb;subst hb;have t1:=Zcy hd;have hw:IntKind.i64.wrap ((k:Int)+1)=k+1:=IntWalk.i64_in _ (by omega);clear hd;go_wp2_with fail
    go_region_with (go_at_call 49;refine(rdr_string _ l k o g _ (by exact HR.out)).mono ?_;rintro e w1 ⟨rfl,d1,a⟩;have s:=hid a;clear a)
    all_goals
     go_wp2;go_ret3;exact⟨rfl,f.out.drew.trans s.out (fun i hi h=>by have:=HG.out i h.symm;omega)⟩
   ·have t1:=Zn hd;by_cases r:l[k]=92
    ·rw[Zo1 v hd r]at hb;have t2:((l[k].toNat:Int)==92)=true:=by rw[r];rfl
     have HB:=hid hb;clear hb hd r;go_wp2_with(go_at_call 175;refine(escape_any _ l k o d rx g _ HR.out (by omega) (by omega) v).mono ?_;rintro e w1 ⟨rfl,g1,b,a,c⟩)
     ·have E:((esc l d rx k o).1 !=0)=true:=by assumption
      have hb:=HB.out;rw[if_neg (by simpa using E)]at hb;subst hb;have d1:=b.cell1;have s:=hid a;clear a;have A:=hid b;clear b;have z:=hid c;clear c
      go_quiet (fail)
      go_wp2;go_ret3;exact⟨rfl,(f.out.trans s.out (fun i hi h=>by rcases h with h|h;omega;have:=HG.out i h.symm;omega)).drewN _⟩
     ·have y:(esc l d rx k o).1=0:=by have:((esc l d rx k o).1 !=0)=false:=by assumption
                                      simpa using this
      obtain⟨e1,e2,e3⟩:=ZoZ y;have hb:=HB.out;rw[if_pos y]at hb;have C:=f.out.size;clear y;go_roundg m
      case measure=>omega
      case rel=>exact⟨_,_,g1,by omega,by omega,by omega,b,f.out.trans a (fun i hi h=>by rcases h with h|h;omega;have:=HG.out i h.symm;omega),fun j hj=>by rcases c j hj with h|h;exact HG.out j h.symm;omega,hb⟩
    ·have t2:((l[k].toNat:Int)==92)=false:=Zn r;by_cases p:l[k]=91∧rx=true
     ·obtain⟨p,rfl⟩:=p;have t3:((l[k].toNat:Int)==91)=true:=by rw[p];rfl
      have hm:(if l[k]=91∧true=true then brE l k-k else 1)=brE (l.drop k) 0:=by rw[if_pos ⟨p,rfl⟩,←ZdD (by omega)];omega
      rw[ZjT v hd r hm]at hb;have u:k+brE (l.drop k) 0≤l.length:=by rw[ZdD (by omega)];unfold brE;omega
      have D:1≤brE (l.drop k) 0:=by unfold brE;simp only[List.length_drop];omega
      have HB:=hid hb;clear hb hm hd r p;obtain⟨q,hq⟩:∃q,brE (l.drop k) 0=q:=⟨_,rfl⟩;have HQ:=hid hq;clear hq;rw[HQ.out]at u D HB;by_cases hi:Lib.indexByte ((l.drop k).take q) 10<0
      ·have hb:=HB.out;rw[if_pos hi]at hb;have HI:=hid hi;clear hi;go_wp2_with(go_at_call 176;refine(bracket_any (l.drop k) _ (by simp;omega) (by simp;omega)).mono ?_;rw[HQ.out];rintro e w' ⟨rfl,rfl⟩);go_wp2_with(go_at_call 177;refine(copy_yes _ l k q o g _ (by exact HR.out) (by omega) (by omega) u HI.out).mono ?_;rintro e w1 ⟨rfl,g1,b,a,c⟩);have C:=f.out.size;have hl:=List.length_take_le q (l.drop k);go_roundg m
       case measure=>omega
       case rel=>exact⟨_,_,g1,by omega,by omega,by rw[List.length_append];omega,b,f.out.trans a (fun i hi h=>by rcases h with h|h;omega;have:=HG.out i h.symm;omega),fun j hj=>by rcases c j hj with h|h;exact HG.out j h.symm;omega,hb⟩
      ·have hb:=HB.out;rw[if_neg hi]at hb;obtain⟨i,t⟩:∃i:Nat,Lib.indexByte ((l.drop k).take q) 10=i:=⟨_,(Int.toNat_of_nonneg (by omega)).symm⟩;rw[t,Int.toNat_natCast]at hb;subst hb;have HI:=hid t;clear hi t;go_wp2_with(go_at_call 176;refine(bracket_any (l.drop k) _ (by simp;omega) (by simp;omega)).mono ?_;rw[HQ.out];rintro e w' ⟨rfl,rfl⟩);go_wp2_with(go_at_call 177;refine(copy_no _ l k q o g _ (by exact HR.out) (by omega) u i HI.out).mono ?_;rintro e w1 ⟨rfl,g1,b,a,c⟩);have d1:=b.cell1;have s:=hid a;clear a;have A:=hid b;clear b;have z:=hid c;clear c
       go_quiet (fail)
       go_wp2;go_ret3;exact⟨rfl,(f.out.trans s.out (fun i hi h=>by rcases h with h|h;omega;have:=HG.out i h.symm;omega)).drewN _⟩
     ·rw[ZjT v hd r (if_neg p)]at hb;have t3:((l[k].toNat:Int)==91)=false∨(((l[k].toNat:Int)==91)=true∧rx=false):=by
       by_cases x:l[k]=91
       ·right;exact⟨by rw[x];rfl,ZoX x p⟩
       ·left;exact Zn x
      have HB:=hid hb;clear hb hd r p;obtain⟨q,hq⟩:∃q:Nat,q=1:=⟨1,rfl⟩;have u:k+1≤l.length:=by omega
      rcases t3 with t3|⟨t3,rfl⟩
      all_goals
       by_cases hi:Lib.indexByte ((l.drop k).take 1) 10<0
       ·have hb:=HB.out;rw[if_pos hi]at hb;have HI:=hid hi;clear hi;go_wp2_with(go_at_call 177;refine(copy_yes _ l k 1 o g _ (by exact HR.out) (by omega) (by omega) u HI.out).mono ?_;rintro e w1 ⟨rfl,g1,b,a,c⟩);have C:=f.out.size;have hl:=List.length_take_le 1 (l.drop k);go_roundg m
        case measure=>omega
        case rel=>exact⟨_,_,g1,by omega,by omega,by rw[List.length_append];omega,b,f.out.trans a (fun i hi h=>by rcases h with h|h;omega;have:=HG.out i h.symm;omega),fun j hj=>by rcases c j hj with h|h;exact HG.out j h.symm;omega,hb⟩
       ·have hb:=HB.out;rw[if_neg hi]at hb;obtain⟨i,t⟩:∃i:Nat,Lib.indexByte ((l.drop k).take 1) 10=i:=⟨_,(Int.toNat_of_nonneg (by omega)).symm⟩;rw[t,Int.toNat_natCast]at hb;subst hb;have HI:=hid t;clear hi t;go_wp2_with(go_at_call 177;refine(copy_no _ l k 1 o g _ (by exact HR.out) (by omega) u i HI.out).mono ?_;rintro e w1 ⟨rfl,g1,b,a,c⟩);have d1:=b.cell1;have s:=hid a;clear a;have A:=hid b;clear b;have z:=hid c;clear c
        go_quiet (fail)
        go_wp2;go_ret3;exact⟨rfl,(f.out.trans s.out (fun i hi h=>by rcases h with h|h;omega;have:=HG.out i h.symm;omega)).drewN _⟩
  ·rw[Znv (by omega)]at hb;subst hb;go_wp2;go_ret3;exact⟨rfl,f.out⟩
theorem ZqR{o:List UInt8}{k:Nat}{a:UInt8}(h:o.length≤k):(o++[a]).length≤k+1:=by simp;omega
theorem Zqh{o:List UInt8}{k:Nat}{a:UInt8}(h:o.length≤k):(o++[a]).length≤k+2:=by simp;omega
def nm(at_:Nat):List UInt8→Nat→Nat→Nat×Nat×Int
 |[],n,c=>if c=0 then(0,at_,2)else(n,at_+c,0)
 |x::r,n,c=>if 48≤x.toNat∧x.toNat≤57 then(if c=9 then(0,at_,3)else nm at_ r (n*10+(x.toNat-48)) (c+1))else if c=0 then(0,at_,2)else(n,at_+c,0)
theorem Zo2{at_:Nat}{l:List UInt8}{k n c:Nat}(h:l.length≤k):nm at_ (l.drop k) n c=if c=0 then(0,at_,2)else(n,at_+c,0):=by
 rw[List.drop_eq_nil_of_le h];rfl
theorem Zqi{at_:Nat}{l:List UInt8}{k n c:Nat}(h:k<l.length)(hd:¬(48≤l[k].toNat∧l[k].toNat≤57)):nm at_ (l.drop k) n c=if c=0 then(0,at_,2)else(n,at_+c,0):=by
 rw[List.drop_eq_getElem_cons h,nm,if_neg hd]
theorem Znw{at_:Nat}{l:List UInt8}{k n:Nat}(h:k<l.length)(hd:48≤l[k].toNat∧l[k].toNat≤57):nm at_ (l.drop k) n 9=(0,at_,3):=by
 rw[List.drop_eq_getElem_cons h,nm,if_pos hd,if_pos rfl]
theorem Znx{at_:Nat}{l:List UInt8}{k n c:Nat}(h:k<l.length)(hd:48≤l[k].toNat∧l[k].toNat≤57)(hc:c≠9):nm at_ (l.drop k) n c=nm at_ (l.drop (k+1)) (n*10+(l[k].toNat-48)) (c+1):=by
 rw[List.drop_eq_getElem_cons h,nm,if_pos hd,if_neg hc]
theorem Zb2{S:Nat→Prop}{a w:World}(h:Fr S a w)(s:ByteArray)(p:Nat):Fr S a (w.iter s p):=h.alloc _
def ZiU(c:Nat):Nat:=10^c
theorem ZiV(c:Nat):ZiU (c+1)=ZiU c*10:=by unfold ZiU;rw[Nat.pow_succ]
theorem ZlS{c:Nat}(h:c≤9):ZiU c≤1000000000:=by unfold ZiU;exact Nat.le_trans (Nat.pow_le_pow_right (by omega) h) (by omega)
def Zqj(l:List UInt8)(at_:Nat)(F:Nat×Nat×Int)(w:World)(n c:Value)(wr:World):Prop:=
 ∃(m k:Nat),n=.int .i64 m∧c=.int .i64 k∧wr=w.iter ⟨(l.drop at_).toArray⟩ k∧k≤9∧at_+k≤l.length∧m<ZiU k∧nm at_ (l.drop (at_+k)) m k=F
theorem Zc4(l:List UInt8)(at_:Nat)(w:World)(hs:l.length≤100000)(hat:at_≤l.length):
 Calls Tryz.prog 156 #[.string ⟨l.toArray⟩,.int .i64 at_] w fun e w'=>
  e=.returned (.tuple #[.int .i64 (nm at_ (l.drop at_) 0 0).1,.int .i64 (nm at_ (l.drop at_) 0 0).2.1,.int .i64 (nm at_ (l.drop at_) 0 0).2.2])∧Fr nob w w':=by
 obtain⟨F,hF⟩:∃F,nm at_ (l.drop at_) 0 0=F:=⟨_,rfl⟩;rw[hF];have HF:=hid hF;clear hF;have ho:(decide ((at_:Int)<0)||decide ((l.length:Int)<at_))=false:=by simp;omega
 have HO:=hid ho;clear ho;go_enter Tryz.func156,Tryz.ntmps156;go_wp2_with(go_at_call 128;refine(over_any _ _ w (by omega)).mono ?_;rw[HO.out];rintro e w' ⟨rfl,rfl⟩)
 go_loopw [7,8] (fun n c wr=>Zqj l at_ F w n c wr) (fun _ c _=>10-(intOf c).toNat)
 case atStart=>exact⟨0,0,rfl,rfl,rfl,by omega,by omega,by decide,HF.out⟩
 case round=>
  obtain⟨m,k,rfl,rfl,rfl,hk,u,hm,hb⟩:=hrel;by_cases g:at_+k<l.length
  ·have f:k<(l.drop at_).length:=by rw[List.length_drop];omega
   have b:k<(ByteArray.mk (l.drop at_).toArray).size:=by rw[Zbp];exact f
   have a:(ByteArray.mk (l.drop at_).toArray)[k]'b=l[at_+k]:=by rw[Zp6];exact List.getElem_drop
   by_cases hd:48≤l[at_+k].toNat∧l[at_+k].toNat≤57
   ·obtain⟨i,j⟩:=hd;have o:∀ty,(Instr.next (.pointer (some ⟨w.heap.size,0,none⟩)) true ty).run Tryz.prog (w.iter ⟨(l.drop at_).toArray⟩ k)=.ok (.tuple #[.bool true,.int .i64 k,.int .i32 l[at_+k].toNat]) (w.iter ⟨(l.drop at_).toArray⟩ (k+1)):=fun ty=>by
     rw[run_next_ascii w _ k ty b (by rw[a];omega),a]
    by_cases hc:k=9
    ·subst hc;rw[Znw g ⟨i,j⟩]at hb;subst hb;clear f b a hm;go_wp2;go_ret3;exact⟨rfl,Zb2 (Fr.refl _ _) _ _⟩
    ·have h:((k:Int)==9)=false:=by simp;omega
     rw[Znx g ⟨i,j⟩ hc]at hb;have t:k≤8:=by omega
     have hp:=ZlS hk;have q:=ZiV k;have HB:=hid hb;have HP:=hid q;clear hb f b a hc q;have v:m<1000000000:=by omega
     go_wp2;go_roundw
     case rel=>
      refine⟨m*10+(l[at_+k].toNat-48),k+1,?_,by go_num,rfl,by omega,by omega,by rw[HP.out];omega,HB.out⟩
      go_num
     case measure=>simp[intOf];omega
   ·rw[Zqi g hd]at hb;obtain⟨r,p,hr,o⟩:∃(r:Int) (p:Nat),(r<48∨57<r)∧∀ty,(Instr.next (.pointer (some ⟨w.heap.size,0,none⟩)) true ty).run Tryz.prog (w.iter ⟨(l.drop at_).toArray⟩ k)=.ok (.tuple #[.bool true,.int .i64 k,.int .i32 r]) (w.iter ⟨(l.drop at_).toArray⟩ p):=by
     by_cases ha:l[at_+k].toNat<128
     ·exact⟨l[at_+k].toNat,k+1,by omega,fun ty=>by rw[run_next_ascii w _ k ty b (by rw[a];exact ha),a]⟩
     ·have hh:=decode_high (ByteArray.mk (l.drop at_).toArray) k b (by rw[a];omega);exact⟨_,_,by omega,fun ty=>run_next_any w _ k ty b⟩
    clear f b a hd hm;by_cases hc:k=0
    ·subst hc;rw[if_pos rfl]at hb;subst hb;rcases hr with hr|hr
     ·go_wp2;go_ret3;exact⟨rfl,Zb2 (Fr.refl _ _) _ _⟩
     ·have s:48≤r:=by omega
      go_wp2;go_ret3;exact⟨rfl,Zb2 (Fr.refl _ _) _ _⟩
    ·rw[if_neg hc]at hb;subst hb;have h:((k:Int)==0)=false:=by simp;omega
     clear hc;rcases hr with hr|hr
     ·go_wp2;go_ret3;exact⟨by simp,Zb2 (Fr.refl _ _) _ _⟩
     ·have s:48≤r:=by omega
      go_wp2;go_ret3;exact⟨by simp,Zb2 (Fr.refl _ _) _ _⟩
  ·rw[Zo2 (by omega)]at hb;have o:∀ty,(Instr.next (.pointer (some ⟨w.heap.size,0,none⟩)) true ty).run Tryz.prog (w.iter ⟨(l.drop at_).toArray⟩ k)=.ok (.tuple #[.bool false]) (w.iter ⟨(l.drop at_).toArray⟩ k):=fun ty=>run_next_end w _ k ty (by rw[Zbp,List.length_drop];omega);clear hm;by_cases hc:k=0
   ·subst hc;rw[if_pos rfl]at hb;subst hb;go_wp2;go_ret3;exact⟨rfl,Zb2 (Fr.refl _ _) _ _⟩
   ·rw[if_neg hc]at hb;subst hb;have h:((k:Int)==0)=false:=by simp;omega
    clear hc;go_wp2;go_ret3;exact⟨by simp,Zb2 (Fr.refl _ _) _ _⟩
def ln(l:List UInt8):Nat→Nat→List UInt8→List UInt8×Nat×Int
 |0,_,_=>([],0,0)
 |n+1,k,out=>
  match l[k]? with
  |none=>(out++[10],min (k+1) l.length,0)
  |some c=>
   if c=10 then(out++[10],min (k+1) l.length,0)
   else if c=92 then(match l[k+1]? with|none=>([],k,11)|some x=>ln l n (k+2) (out++[x]))
   else ln l n (k+1) (out++[c])
theorem Zny{l:List UInt8}{n k:Nat}{out:List UInt8}(h:l.length≤k):ln l (n+1) k out=(out++[10],min (k+1) l.length,0):=by rw[ln,List.getElem?_eq_none h]
theorem Zqk{l:List UInt8}{n k:Nat}{out:List UInt8}(h:k<l.length)(e:l[k]=10):ln l (n+1) k out=(out++[10],min (k+1) l.length,0):=by
 rw[ln,List.getElem?_eq_getElem h];simp[e]
theorem Znz{l:List UInt8}{n k:Nat}{out:List UInt8}(h:k<l.length)(e:l[k]=92)(h2:l.length≤k+1):ln l (n+1) k out=([],k,11):=by
 rw[ln,List.getElem?_eq_getElem h,List.getElem?_eq_none h2];simp[e]
theorem Zo3{l:List UInt8}{n k:Nat}{out:List UInt8}(h:k<l.length)(e:l[k]=92)(h2:k+1<l.length):ln l (n+1) k out=ln l n (k+2) (out++[l[k+1]]):=by
 rw[ln,List.getElem?_eq_getElem h,List.getElem?_eq_getElem h2];simp[e]
theorem Zo4{l:List UInt8}{n k:Nat}{out:List UInt8}(h:k<l.length)(e:l[k]≠10)(e2:l[k]≠92):ln l (n+1) k out=ln l n (k+1) (out++[l[k]]):=by
 rw[ln,List.getElem?_eq_getElem h];simp only;rw[if_neg e,if_neg e2]
def Zql(l:List UInt8)(F:List UInt8×Nat×Int)(w:World)(n:Nat)(at_:Value)(wr:World):Prop:=
 ∃(k:Nat) (out:List UInt8) (g:Option Nat),at_=.int .i64 k∧l.length<n+k∧k≤l.length∧out.length≤k∧Bb w.heap.size out g wr∧Fr nob w wr∧(∀j,g=some j→w.heap.size≤j)∧ln l n k out=F
theorem ZjU(l:List UInt8)(at_:Nat)(w:World)(hs:l.length≤100000)(hat:at_≤l.length):
 Calls Tryz.prog 117 #[.string ⟨l.toArray⟩,.int .i64 at_] w fun e w'=>
  e=.returned (.tuple #[.string ⟨(ln l (l.length+1) at_ []).1.toArray⟩,.int .i64 (ln l (l.length+1) at_ []).2.1,.int .i64 (ln l (l.length+1) at_ []).2.2])∧Fr nob w w':=by
 obtain⟨F,hF⟩:∃F,ln l (l.length+1) at_ []=F:=⟨_,rfl⟩;rw[hF];have HF:=hid hF;clear hF;have ho:(decide ((at_:Int)<0)||decide ((l.length:Int)<at_))=false:=by simp;omega
 have HO:=hid ho;clear ho;go_enter Tryz.func117,Tryz.ntmps117;go_wp2_with(go_at_call 128;refine(over_any _ _ w (by omega)).mono ?_;rw[HO.out];rintro e w' ⟨rfl,rfl⟩)
 go_loopg [1] (l.length+1) (fun n a wr=>Zql l F w n a wr)
 case atStart=>exact⟨at_,[],none,rfl,by omega,hat,Nat.zero_le _,Bb.new _,(Fr.refl _ _).alloc _,fun _ h=>(by cases h),HF.out⟩
 case round=>
  obtain⟨k,r,g,rfl,hn,hk,s,hr,B,hg,hb⟩:=hrel;obtain⟨m,rfl⟩:∃m,gk=m+1:=⟨gk-1,by omega⟩;have HR:=hid hr;clear hr;have c:=hid B;clear B;have HG:=hid hg;clear hg;by_cases q:k<l.length
  ·by_cases j:l[k]=10
   ·rw[Zqk q j]at hb;subst hb;have t1:((l[k].toNat:Int) !=10)=false:=tn_eq (b:=10) j;clear j;go_wp2_with fail;refine(bb_writeByte _ r 10 g _ (by omega) HR.out (by omega)).mono ?_;rintro e w1 ⟨rfl,g1,h1,d,f⟩;have t:=hid h1;have u:=hid (ZcJ (g':=none) (Nat.le_refl _) c.out HG.out d);have x:=hid (ZdV c.out HG.out f);clear h1 d f;go_wp2_with fail;refine(bb_string _ _ g1 _ t.out).mono ?_;rintro e w2 ⟨rfl,p⟩;have v:=hid p;clear p;go_wp2;go_ret3;exact⟨by simp;try omega,u.out.trans v.out (fun i hi h=>by have:=x.out i h.symm;omega)⟩
   ·have t1:((l[k].toNat:Int) !=10)=true:=ZoW (b:=10) j;by_cases o:l[k]=92
    ·have t2:((l[k].toNat:Int)==92)=true:=by rw[o];rfl
     by_cases A:k+1<l.length
     ·rw[Zo3 q o A]at hb;have t3:((k:Int)+1==l.length)=false:=by simp;omega
      have y:=Zcf l[k+1];have z:=hid (ZaY l[k+1]);have HB:=hid hb;clear hb o j;have C:(k:Int)+1<l.length:=by omega
      go_wp2_with fail;refine(bb_writeByte _ r _ g _ y HR.out (by omega)).mono ?_;rintro e w1 ⟨rfl,g1,h1,d,f⟩;rw[z.out]at h1;go_wp2;go_roundg m
      case measure=>omega
      case rel=>exact⟨k+2,_,g1,by go_num,by omega,by omega,Zqh s,h1,ZcJ (g':=none) (Nat.le_refl _) c.out HG.out d,ZdV c.out HG.out f,HB.out⟩
     ·rw[Znz q o (by omega)]at hb;subst hb;have t3:((k:Int)+1==l.length)=true:=by simp;omega
      clear j o;go_wp2;go_ret3;exact⟨by simp,c.out⟩
    ·have t2:((l[k].toNat:Int)==92)=false:=Zn o;rw[Zo4 q j o]at hb;have y:=Zcf l[k];have z:=hid (ZaY l[k]);have HB:=hid hb;clear hb o j;go_wp2_with fail;refine(bb_writeByte _ r _ g _ y HR.out (by omega)).mono ?_;rintro e w1 ⟨rfl,g1,h1,d,f⟩;rw[z.out]at h1;go_wp2;go_roundg m
     case measure=>omega
     case rel=>exact⟨k+1,_,g1,by go_num,by omega,by omega,ZqR s,h1,ZcJ (g':=none) (Nat.le_refl _) c.out HG.out d,ZdV c.out HG.out f,HB.out⟩
  ·rw[Zny (by omega)]at hb;subst hb;go_wp2_with fail;refine(bb_writeByte _ r 10 g _ (by omega) HR.out (by omega)).mono ?_;rintro e w1 ⟨rfl,g1,h1,d,f⟩;have t:=hid h1;have u:=hid (ZcJ (g':=none) (Nat.le_refl _) c.out HG.out d);have x:=hid (ZdV c.out HG.out f);clear h1 d f;go_wp2_with fail;refine(bb_string _ _ g1 _ t.out).mono ?_;rintro e w2 ⟨rfl,p⟩;have v:=hid p;clear p;go_wp2;go_ret3;exact⟨by simp;try omega,u.out.trans v.out (fun i hi h=>by have:=x.out i h.symm;omega)⟩
end Go.Proofs.YtkfddjopbocpkaaGreatDoor
