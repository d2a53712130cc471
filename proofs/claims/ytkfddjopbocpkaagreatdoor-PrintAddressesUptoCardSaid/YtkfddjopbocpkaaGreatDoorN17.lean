/- Lemmas of this claim. -/
import Derived.Test.YtkfddjopbocpkaaGreatDoorN00
import Derived.Test.YtkfddjopbocpkaaGreatDoorN05
set_option linter.unusedVariables false
set_option linter.unusedSimpArgs false
set_option maxRecDepth 100000
set_option maxHeartbeats 4000000
namespace Go.Proofs.YtkfddjopbocpkaaGreatDoor
open Go.Lib (hid)
open Go.RowKit
def lenOf:Value→Nat
 | .string b=>b.size
 |_=>0
def tl(l cs:List UInt8):List UInt8:=l.dropWhile (cs.contains ·)
def tr(l cs:List UInt8):List UInt8:=(l.reverse.dropWhile (cs.contains ·)).reverse
theorem Zo5{m cs:List UInt8}(h:¬0<m.length):tl m cs=m:=by
 cases m with
 |nil=>rfl
 |cons _ _=>simp at h
theorem Zo6{m cs:List UInt8}(h:0<m.length)(e:cs.contains m[0]=true):tl m cs=tl (m.drop 1) cs:=by
 cases m with
 |nil=>simp at h
 |cons x r=>simp only[List.getElem_cons_zero]at e;simp only[tl,List.dropWhile_cons,e,if_true,List.drop_succ_cons,List.drop_zero]
theorem Zqm{m cs:List UInt8}(h:0<m.length)(e:cs.contains m[0]=false):tl m cs=m:=by
 cases m with
 |nil=>simp at h
 |cons x r=>simp only[List.getElem_cons_zero]at e;simp only[tl,List.dropWhile_cons,e];rfl
theorem Zo7(m cs:List UInt8):(tr m cs).length≤m.length:=by
 unfold tr;rw[List.length_reverse];exact Nat.le_trans (List.dropWhile_sublist _).length_le (by rw[List.length_reverse];exact Nat.le_refl _)
theorem ZfF{m:List UInt8}{k:Nat}(h:m.length=k+1):m.take k++[m[k]'(by omega)]=m:=by
 rw[List.take_append_getElem];exact List.take_of_length_le (by omega)
theorem Zo8{m cs:List UInt8}(h:¬0<m.length):tr m cs=m:=by
 cases m with
 |nil=>rfl
 |cons _ _=>simp at h
theorem Zo9{m cs:List UInt8}{k:Nat}(h:m.length=k+1)(e:cs.contains (m[k]'(by omega))=true):tr m cs=tr (m.take k) cs:=by
 have:=ZfF h;unfold tr
 conv=>lhs;rw[←this]
 rw[List.reverse_append,List.reverse_singleton,List.singleton_append,List.dropWhile_cons,if_pos e]
theorem Zqn{m cs:List UInt8}{k:Nat}(h:m.length=k+1)(e:cs.contains (m[k]'(by omega))=false):tr m cs=m:=by
 have:=ZfF h;unfold tr
 conv=>lhs;rw[←this]
 rw[List.reverse_append,List.reverse_singleton,List.singleton_append,List.dropWhile_cons,if_neg (by rw[e];decide)];rw[List.reverse_cons,List.reverse_reverse,this]
theorem Zbq(l cs:List UInt8)(b:Nat)(w:World)(hl:l.length≤1000000)(hc:∀x:UInt8,w.cell? ⟨b,x.toNat,none⟩=some (.bool (cs.contains x))):
 Calls Tryz.prog 159 #[.string ⟨l.toArray⟩,.pointer (some ⟨b,0,none⟩)] w fun e w'=>e=.returned (.string ⟨(tl l cs).toArray⟩)∧w=w':=by
 obtain⟨F,hF⟩:∃F,tl l cs=F:=⟨_,rfl⟩;rw[hF];have HF:=hid hF;clear hF;have HC:=hid hc;clear hc;go_enter Tryz.func159,Tryz.ntmps159;go_wp2
 go_loop [0] (fun s=>∃m:List UInt8,m.length≤1000000∧s=.string ⟨m.toArray⟩∧tl m cs=F) (fun s=>lenOf s)
 case atStart=>exact⟨l,hl,rfl,HF.out⟩
 case round=>
  obtain⟨m,hm,rfl,hF⟩:=hrel;by_cases h:0<m.length
  ·obtain⟨x,hx⟩:∃x,m[0]=x:=⟨_,rfl⟩;cases c:cs.contains x with
   |true=>
    rw[Zo6 h (by rw[hx];exact c)]at hF;have HX:=hid hF;clear hF;have a:=HC.out x;rw[c]at a;go_wp2_with(go_at_call 153;refine(Tryz.asciiSet_contains _ x _ _ a).mono ?_;rintro e w' ⟨rfl,rfl⟩)
    go_round
    case measure=>simp[lenOf,Zbp];omega
    case rel=>exact⟨m.drop 1,by simp;omega,by rw[List.drop_one],HX.out⟩
   |false=>
    rw[Zqm h (by rw[hx];exact c)]at hF;subst hF;have a:=HC.out x;rw[c]at a;go_wp2_with(go_at_call 153;refine(Tryz.asciiSet_contains _ x _ _ a).mono ?_;rintro e w' ⟨rfl,rfl⟩);go_ret;exact⟨rfl,rfl⟩
  ·rw[Zo5 h]at hF;subst hF;go_wp2;go_ret;exact⟨rfl,rfl⟩
theorem ZcL(l cs:List UInt8)(b:Nat)(w:World)(hl:l.length≤1000000)(hc:∀x:UInt8,w.cell? ⟨b,x.toNat,none⟩=some (.bool (cs.contains x))):
 Calls Tryz.prog 181 #[.string ⟨l.toArray⟩,.pointer (some ⟨b,0,none⟩)] w fun e w'=>e=.returned (.string ⟨(tr l cs).toArray⟩)∧w=w':=by
 obtain⟨F,hF⟩:∃F,tr l cs=F:=⟨_,rfl⟩;rw[hF];have HF:=hid hF;clear hF;have HC:=hid hc;clear hc;go_enter Tryz.func181,Tryz.ntmps181;go_wp2
 go_loop [0] (fun s=>∃m:List UInt8,m.length≤1000000∧s=.string ⟨m.toArray⟩∧tr m cs=F) (fun s=>lenOf s)
 case atStart=>exact⟨l,hl,rfl,HF.out⟩
 case round=>
  obtain⟨m,hm,rfl,hF⟩:=hrel;by_cases h:0<m.length
  ·obtain⟨k,hk⟩:∃k,m.length=k+1:=⟨m.length-1,by omega⟩;obtain⟨x,hx⟩:∃x,m[k]=x:=⟨_,rfl⟩;have d:(ByteArray.mk m.toArray).extract 0 k=⟨(m.take k).toArray⟩:=by rw[Zm8];simp
   cases c:cs.contains x with
   |true=>
    rw[Zo9 hk (by rw[hx];exact c)]at hF;have HX:=hid hF;clear hF;have a:=HC.out x;rw[c]at a;go_wp2_with(go_at_call 153;refine(Tryz.asciiSet_contains _ x _ _ a).mono ?_;rintro e w' ⟨rfl,rfl⟩)
    go_round
    case measure=>simp[lenOf,Zbp];omega
    case rel=>exact⟨m.take k,by simp;omega,rfl,HX.out⟩
   |false=>
    rw[Zqn hk (by rw[hx];exact c)]at hF;subst hF;have a:=HC.out x;rw[c]at a;go_wp2_with(go_at_call 153;refine(Tryz.asciiSet_contains _ x _ _ a).mono ?_;rintro e w' ⟨rfl,rfl⟩);go_ret;exact⟨rfl,rfl⟩
  ·rw[Zo8 h]at hF;subst hF;go_wp2;go_ret;exact⟨rfl,rfl⟩
theorem Zpa:(zeroValue 234).run Tryz.prog=fun w=>.ok (.agg (Array.replicate 256 (.bool false))) w:=by
 funext w;exact(zero_of_info (P:=Tryz.prog) (n:=256) (by kernel_rfl)).1 w
def ZbJ(cs:List UInt8)(w:World):World:=(w.alloc (.cells (Lib.setCells cs) 234)).alloc (.cells (Lib.setCells cs) 234)
theorem Zc5(cs:List UInt8)(w:World):Fr nob w (ZbJ cs w):=((Fr.refl _ _).alloc _).alloc _
theorem Zc6(cs:List UInt8)(w:World)(x:UInt8):(ZbJ cs w).cell? ⟨w.heap.size+1,x.toNat,none⟩=some (.bool (cs.contains x)):=by
 unfold ZbJ;rw[World.cell?_alloc_at _ _ _ _ (by simp),Lib.setCells_at]
theorem ZcM(cs:List UInt8)(w:World):(storeCells ⟨w.heap.size+1,0,none⟩ (Lib.setCells cs).toList 0).run Tryz.prog ((w.alloc (.cells (Lib.setCells cs) 234)).alloc (.cells (Array.replicate 256 (.bool false)) 234))=.ok () (ZbJ cs w):=by
 have:=run_storeCells_new (P:=Tryz.prog) (w.alloc (.cells (Lib.setCells cs) 234)) 234 (Array.replicate 256 (.bool false)) (Lib.setCells cs) (by rw[Lib.setCells_size];kernel_rfl) (by rw[Lib.setCells_size,Array.size_replicate]) (Lib.setCells_one _);unfold ZbJ;simpa using this
theorem ZfG(l:List UInt8)(c d:UInt8)(cs:List UInt8)(w:World)(hl:l.length≤1000000)(hcs:cs.length≤1000)(ha:∀(j:Nat) b,(c::d::cs)[j]? =some b→b.toNat<128):
 Calls Tryz.prog 129 #[.string ⟨l.toArray⟩,.string ⟨(c::d::cs).toArray⟩] w fun e w'=>e=.returned (.string ⟨(tl l (c::d::cs)).toArray⟩)∧Fr nob w w':=by
 have hM:=Tryz.strings_makeASCIISet (fun w=>by rw[Zpa]) ⟨(c::d::cs).toArray⟩ w (by rw[Zbp];simp;omega) (by simpa using ha);clear ha;obtain⟨CS,a⟩:∃CS,c::d::cs=CS:=⟨_,rfl⟩;have hn:∃n,CS.length=n+2:=⟨cs.length,by rw[←a];rfl⟩;rw[a]at hM⊢;clear a;have hS:=ZcM CS w;obtain⟨n,hn⟩:=hn;have g:((CS.length:Int)==1)=false:=beq_eq_false_iff_ne.2 (by omega);have f:CS.isEmpty=false:=by cases CS with|nil=>simp at hn|cons _ _=>rfl
 go_enter Tryz.func129,Tryz.ntmps129;cases l with
 |nil=>
  go_wp2;go_ret;exact⟨rfl,Fr.refl _ _⟩
 |cons x r=>
  obtain⟨L,hL⟩:∃L,x::r=L:=⟨_,rfl⟩;have h:L.isEmpty=false:=by rw[←hL];rfl
  rw[hL]at hl⊢;clear hL;have hT:=Zbq L CS (w.heap.size+1) (ZbJ CS w) hl (Zc6 CS w);have i:=Lib.setCells_size CS;go_wp2_with(go_at_call 152;refine hM.mono ?_;rintro e w' ⟨rfl,hw⟩;rw[hw])
  first
   |(rw[Zpa];simp only[Result.andThen])
   |(rw[show Tryz.zeroCells234=Array.replicate 256 (.bool false)from by kernel_rfl,hS];simp only[Result.andThen])
  go_wp2_with(go_at_call 159;refine hT.mono ?_;rintro e w' ⟨rfl,rfl⟩);go_ret;exact⟨rfl,Zc5 _ _⟩
theorem ZlT(l:List UInt8)(c d:UInt8)(cs:List UInt8)(w:World)(hl:l.length≤1000000)(hcs:cs.length≤1000)(ha:∀(j:Nat) b,(c::d::cs)[j]? =some b→b.toNat<128):
 Calls Tryz.prog 149 #[.string ⟨l.toArray⟩,.string ⟨(c::d::cs).toArray⟩] w fun e w'=>e=.returned (.string ⟨(tl (tr l (c::d::cs)) (c::d::cs)).toArray⟩)∧Fr nob w w':=by
 have hM:=Tryz.strings_makeASCIISet (fun w=>by rw[Zpa]) ⟨(c::d::cs).toArray⟩ w (by rw[Zbp];simp;omega) (by simpa using ha);clear ha;obtain⟨CS,a⟩:∃CS,c::d::cs=CS:=⟨_,rfl⟩;have hn:∃n,CS.length=n+2:=⟨cs.length,by rw[←a];rfl⟩;rw[a]at hM⊢;clear a;have hS:=ZcM CS w;obtain⟨n,hn⟩:=hn;have i:((CS.length:Int)==1)=false:=beq_eq_false_iff_ne.2 (by omega);have h:CS.isEmpty=false:=by cases CS with|nil=>simp at hn|cons _ _=>rfl
 go_enter Tryz.func149,Tryz.ntmps149;cases l with
 |nil=>
  go_wp2;go_ret;exact⟨rfl,Fr.refl _ _⟩
 |cons x r=>
  obtain⟨L,hL⟩:∃L,x::r=L:=⟨_,rfl⟩;have k:L.isEmpty=false:=by rw[←hL];rfl
  rw[hL]at hl⊢;clear hL;have g:(tr L CS).length≤1000000:=Nat.le_trans (Zo7 L CS) hl;have hT:=ZcL L CS (w.heap.size+1) (ZbJ CS w) hl (Zc6 CS w);have f:=Zbq (tr L CS) CS (w.heap.size+1) (ZbJ CS w) g (Zc6 CS w);obtain⟨W,hW⟩:∃W,ZbJ CS w=W:=⟨_,rfl⟩;have hF:=Zc5 CS w;rw[hW]at hT f hS hF;have HF:=hid hF;clear hF hW;have m:=Lib.setCells_size CS;go_wp2_with(go_at_call 152;refine hM.mono ?_;rintro e w' ⟨rfl,hw⟩;rw[hw])
  first
   |(rw[Zpa];simp only[Result.andThen])
   |(rw[show Tryz.zeroCells234=Array.replicate 256 (.bool false)from by kernel_rfl,hS];simp only[Result.andThen])
  go_wp2_with(first|(go_at_call 181;refine hT.mono ?_;rintro e w2 ⟨rfl,rfl⟩)|(go_at_call 159;refine f.mono ?_;rintro e w2 ⟨rfl,rfl⟩));go_ret;exact⟨rfl,HF.out⟩
end Go.Proofs.YtkfddjopbocpkaaGreatDoor
