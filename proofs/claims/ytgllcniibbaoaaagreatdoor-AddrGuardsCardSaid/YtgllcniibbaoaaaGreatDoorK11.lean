/- Lemmas of this claim. -/
import Derived.Test.YtgllcniibbaoaaaGreatDoorRows
import Derived.LaidMore
import Derived.Lay
import Derived.SevenTiedAt
import Derived.Stop.Joined
import Derived.Lib.LaidTab
import Derived.Shelf.Vars
import Derived.Test.YtgllcniibbaoaaaGreatDoorK10
set_option linter.all false
set_option maxRecDepth 100000
set_option maxHeartbeats 24000000
namespace Go.Proofs.YtgllcniibbaoaaaGreatDoor
open Go.RowKit
def prz(l:List UInt8)(a:Int):(Int×Nat)⊕(S4×Nat):=if a<0∨(l.length:Int)<a then .inl (1,0)else prs l a.toNat
theorem ZnS{l:List UInt8}{a:Int}(h:a<0∨(l.length:Int)<a):prz l a=.inl (1,0):=if_pos h
theorem Zkd{l:List UInt8}{a:Nat}(h:a≤l.length):prz l a=prs l a:=by unfold prz;rw[if_neg (by omega)];rfl
theorem ZfL(l:List UInt8)(a:Int)(w:World)(hl:l.length≤100000)(hE:Env w):
 Calls Tryz.prog 114 #[.string ⟨l.toArray⟩,.int .i64 a] w fun e w'=>e=.returned (Zp8 (prz l a))∧Fr nob w w':=by
 by_cases h:a<0∨(l.length:Int)<a
 ·rw[ZnS h];exact Zkb l a w h
 ·obtain⟨n,rfl⟩:∃n:Nat,a=n:=⟨a.toNat,by omega⟩;rw[Zkd (by omega)];exact Zkc l n w hl (by omega) hE
theorem Zzg(l:List UInt8)(a:Nat)(w:World)(hl:l.length≤100000)(ha:a≤l.length):
 Calls Tryz.prog 144 #[.string ⟨l.toArray⟩,.int .i64 a] w (ZAT (prs l a) w):=by
 by_cases h:a<l.length
 ·by_cases b:l[a]=94
  ·exact Zze l a w hl ha (by rw[List.getElem?_eq_getElem h,b])
  ·exact Zzx l a w hl ha h b
 ·exact Zzf l a w hl ha (by omega)
theorem Zzh(l:List UInt8)(a:Int)(w:World)(hl:l.length≤100000):
 Calls Tryz.prog 144 #[.string ⟨l.toArray⟩,.int .i64 a] w fun e w'=>e=.returned (Zp8 (prz l a))∧Fr nob w w':=by
 by_cases h:a<0∨(l.length:Int)<a
 ·rw[ZnS h];exact Zzd l a w h
 ·obtain⟨n,rfl⟩:∃n:Nat,a=n:=⟨a.toNat,by omega⟩;rw[Zkd (by omega)];exact Zzg l n w hl (by omega)
theorem prt_err{l:List UInt8}{a:Nat}{z:Int×Nat}(h:prt l a=.inl z):z.1≠0:=by
 unfold prt at h;split at h
 ·next e he=>injection h with h;subst h;exact itm_err he
 ·split at h
  ·split at h
   ·next e he=>injection h with h;subst h;exact itm_err he
   ·split at h
    ·split at h
     ·cases h
     ·injection h with h;subst h;simp
    ·injection h with h;subst h;simp
  ·cases h
theorem lop_err{l:List UInt8}:∀{n a:Nat} {o:S4} {z:Int×Nat},a≤l.length→l.length<n+a→lop l n a o=.inl z→z.1≠0
 |0,a,_,_,h,h',_=>by omega
 |n+1,a,o,z,h,h',hz=>by
  rw[lop]at hz;split at hz
  ·cases hz
  ·cases hp:prt l a with
   |inl y=>rw[hp]at hz;injection hz with hz;subst hz;exact prt_err hp
   |inr x=>rw[hp]at hz;have:=prt_next hp;exact lop_err this.2.1 (by omega) hz
theorem prs_err{l:List UInt8}{a:Nat}{z:Int×Nat}(h:prs l a=.inl z):z.1≠0:=by
 have c:∀b d,Zp7 d (bod l b)=.inl z→z.1≠0:=by
  intro b d hb;unfold bod at hb;cases hp:prt l b with
  |inl y=>rw[hp]at hb;injection hb with hb;subst hb;exact prt_err hp
  |inr x=>
   rw[hp]at hb;simp only at hb;cases hq:lop l (l.length+1) x.2 x.1 with
   |inl y=>rw[hq]at hb;injection hb with hb;subst hb;have:=prt_next hp;exact lop_err this.2.1 (by omega) hq
   |inr y=>rw[hq]at hb;cases hb
 by_cases hc:l[a]? =some 94
 ·rw[Zpn hc]at h;exact c _ _ h
 ·rw[Zpo hc]at h;exact c _ _ h
theorem Zke{l:List UInt8}{a:Nat}{y:S4×Nat}(h:prs l a=.inr y):y.1.fit∧a<y.2∧y.2≤l.length:=by
 have c:∀b d,Zp7 d (bod l b)=.inr y→y.1.fit∧b<y.2∧y.2≤l.length:=by
  intro b d hb;unfold bod at hb;cases hp:prt l b with
  |inl z=>rw[hp]at hb;cases hb
  |inr x=>
   rw[hp]at hb;simp only at hb;cases hq:lop l (l.length+1) x.2 x.1 with
   |inl z=>rw[hq]at hb;cases hb
   |inr z=>
    rw[hq]at hb;injection hb with hb;subst hb;have h1:=prt_next hp;have h2:=lop_next h1.2.2 hq;refine⟨?_,by simp only;omega,by simp only;omega⟩;cases d
    ·exact h2.2.2
    ·exact ZnE _
 by_cases hc:l[a]? =some 94
 ·rw[Zpn hc]at h;have:=c _ _ h;exact⟨this.1,by omega,this.2.2⟩
 ·rw[Zpo hc]at h;exact c _ _ h
section
variable {α:Type} {A:Alg α} {ere:Bool} {l:List UInt8}
theorem repD_err:∀(n:Nat) (s:RxS) (t:α) (z:Int×Nat),Ze8 A ere l n s t=.inl z→z.1≠0
 |0,s,t,z,h=>by rw[Ze8]at h;cases h
 |n+1,s,t,z,h=>by
  rw[Ze8]at h;split at h
  ·exact repD_err n _ _ z h
  ·split at h
   ·exact repD_err n _ _ z h
   ·split at h
    ·exact repD_err n _ _ z h
    ·split at h
     ·split at h
      ·injection h with h;subst h;simp
      ·exact repD_err n _ _ z h
     ·cases h
variable {C:Option (RxS→Out α)} (hC:∀f,C=some f→∀s z,f s=.inl z→z.1≠0)
include hC
theorem Zi5{s:RxS}{z:Int×Nat}(h:Zct A ere l C s=.inl z):z.1≠0:=by
 unfold Zct at h;cases C with
 |none=>injection h with h;subst h;simp
 |some f=>
  simp only at h;cases hf:f {s.go (opB ere 40).length with opened:=s.opened+1}with
  |inl e=>rw[hf]at h;injection h with h;subst h;exact hC f rfl _ _ hf
  |inr y=>
   rw[hf]at h;simp only at h;split at h
   ·cases h
   ·injection h with h;subst h;simp
theorem atomD_err{s:RxS}{z:Int×Nat}(h:ZcS A ere l C s=.inl z):z.1≠0:=by
 unfold ZcS at h;split at h
 ·exact Zi5 hC h
 ·split at h
  ·injection h with h;subst h;simp
  ·split at h
   ·split at h
    ·next e p hp=>injection h with h;subst h;exact prs_err hp
    ·cases h
   ·split at h
    ·cases h
    ·split at h
     ·injection h with h;subst h;simp
     ·split at h
      ·injection h with h;subst h;simp
      ·cases h
      ·unfold escD at h;split at h
       ·split at h
        ·cases h
        ·injection h with h;subst h;simp
       ·split at h
        ·injection h with h;subst h;simp
        ·cases h
theorem brD_err{inner:Bool}:∀(n:Nat) (first front:Bool) (s:RxS) (ps:List α) (z:Int×Nat),brD A ere l C inner n first front s ps=.inl z→z.1≠0
 |0,first,front,s,ps,z,h=>by rw[brD]at h;cases h
 |n+1,first,front,s,ps,z,h=>by
  rw[brD]at h;split at h
  ·cases h
  ·split at h
   ·exact brD_err n _ _ _ _ z h
   ·split at h
    ·exact brD_err n _ _ _ _ z h
    ·split at h
     ·injection h with h;subst h;simp
     ·split at h
      ·next e he=>injection h with h;subst h;exact atomD_err hC he
      ·split at h
       ·next e he=>injection h with h;subst h;exact repD_err _ _ _ _ he
       ·exact brD_err n _ _ _ _ z h
theorem loopD_err{inner:Bool}:∀(n:Nat) (s:RxS) (ts:List α) (z:Int×Nat),Zar A ere l C inner n s ts=.inl z→z.1≠0
 |0,s,ts,z,h=>by rw[Zar]at h;cases h
 |n+1,s,ts,z,h=>by
  rw[Zar]at h;split at h
  ·split at h
   ·next e he=>injection h with h;subst h;exact brD_err hC _ _ _ _ _ _ he
   ·exact loopD_err n _ _ z h
  ·cases h
theorem choiceD_err{inner:Bool}{s:RxS}{z:Int×Nat}(h:choiceD A ere l C inner s=.inl z):z.1≠0:=by
 unfold choiceD at h;split at h
 ·next e he=>injection h with h;subst h;exact brD_err hC _ _ _ _ _ _ he
 ·exact loopD_err hC _ _ _ _ h
end
theorem chD_err{α:Type}{A:Alg α}{ere:Bool}{l:List UInt8}:∀(n:Nat) (s:RxS) (z:Int×Nat),chD A ere l n s=.inl z→z.1≠0
 |0,s,z,h=>by rw[chD]at h;exact choiceD_err (fun f hf=>by cases hf) h
 |n+1,s,z,h=>by rw[chD]at h;exact choiceD_err (fun f hf s z hz=>by injection hf with hf;subst hf;exact chD_err n s z hz) h
theorem parseD_err{α:Type}{A:Alg α}{ere:Bool}{l:List UInt8}{z:Int×Nat}(h:Zac A ere l=.inl z):z.1≠0:=by
 unfold Zac at h;split at h
 ·injection h with h;subst h;simp
 ·exact chD_err _ _ _ h
open Go.ChangeShapes Go.WideShapes Go.ChangeAt Go.RowKit
namespace door
theorem own:ownKnob Tryz.prog.godebug=none:=by kernel_rfl
theorem laidOut:laidOutB Tryz.prog=true:=by kernel_rfl
theorem ZqN:Tryz.prog.globalNamed "math/bits.deBruijn64tab" =some 1:=by kernel_rfl
theorem ZqV:(Tryz.prog.globals[1]?).map (·.type)=some 280:=by kernel_rfl
abbrev list1:List (String×DataW Unit):=[("math/bits.deBruijn64tab",Rows.laid_math_bits_deBruijn64tab),("unicode/utf8.acceptRanges",Rows.laid_unicode_utf8_acceptRanges),("unicode/utf8.first",Rows.laid_unicode_utf8_first)]
theorem Zpu:(Rows.laid_math_bits_deBruijn64tab:DataW Unit)=Lib.tabData .u8 (Lib.deBruijn64tab.map Int.ofNat):=by kernel_rfl
theorem Zkk:(Lib.deBruijn64tab.map Int.ofNat).length=64:=by decide
theorem tab{W:World}(h:laidMetH Tryz.prog list1 W):Tab W:=by
 rw[MakeChecks.laidMetH_plain _ _ _ (by kernel_rfl)]at h;unfold list1 at h;rw[Zpu]at h;have ht:=Lib.tabIs_of_head (P:=Tryz.prog) (W:=W) (t:=280) (e:=5) (n:=64) ZqN ZqV Tryz.underlying280 Tryz.underlying5 (by kernel_rfl) (by kernel_rfl) h;intro j hj;have hc:=ht.cell ZqN j (by rw[Zkk];exact hj);rw[hc]
 congr 2
 have hl:j<Lib.deBruijn64tab.length:=by have:=Zkk;simp at this;omega
 simp[hl]
end door
variable {H:Type} {enc:TypeId×Value→H}
theorem ZfN{a:Assume}{C:Checked}{os:Os}{f:FuncId}{fn:Func}{s:ChangeSpec}{conds:List PathCond}{apart fresh handsOn again:Bool}{X:World→Array Value→Prop}
 (hX:∀(w w':World) (args:Array Value),w.heap=w'.heap→X w args→X w' args)
 (own:ownKnob C.prog.godebug=none) (started:os.Started) (noInit:C.prog.inits.idxOf? f=none) (hfn:C.prog.funcs[f]? =some fn)
 (witness:∃(w:World) (tape:Tape) (i:Input),w.os=os∧(w.forCall tape i).Shaped C.prog∧i.vars=[]∧Input.okWide C.prog (w.forCall tape i) .any w.heap.size f i∧
  ((s.pre enc C.prog fn conds apart (w.forCall tape i).memory i.args∧X (w.forCall tape i).memory i.args)∧sizedMet enc C.prog fn (OpenSpec.ofChange s) apart (w.forCall tape i).memory i.args)∧a.holds C.prog (lone (Frame.enter C.prog f i.args .normal) [] (w.forCall tape i)))
 (contract:∀(W:World) (base:Nat) (args:Array Value) (ds gs:List (DataW H)) (before:List MemPlace),
  (∀(j:Nat) t v,fn.params[j]? =some t→args[j]? =some v→Value.okWide C.prog W .any base t v)→
  DataW.Whole enc C.prog fn.params.toList s.vars apart W args.toList ds gs before→
  (DataW.weightsEach C.prog (fn.params.toList++s.plain.varTypes C.prog) (ds++gs)).all (·≤reachBytes)=true→X W args→W.ShapedOpen C.prog→
  Calls C.prog f args W fun e W'=>∃v,e=.returned v∧s.post enc C.prog fn apart fresh handsOn again W args v W'):
 ReturnsInHanded a C os f .any (fun w args=>(s.pre enc C.prog fn conds apart w args∧X w args)∧sizedMet enc C.prog fn (OpenSpec.ofChange s) apart w args) (s.post enc C.prog fn apart fresh handsOn again):=by
 refine returnsInHanded_of_calls own started noInit witness ?_;intro w tape i _ k _ h c _;obtain⟨_,_,_,g,b,_,_,_,_,d⟩:=h;obtain rfl:g=fn:=Option.some.inj (b.symm.trans hfn);obtain⟨⟨⟨ds,gs,before,hw,_⟩,hx⟩,hz⟩:=c;refine(contract (w.forCall tape i) w.heap.size i.args ds gs before d (DataW.Whole.of_heap (w':=w.forCall tape i) (by rfl) hw) (hz.weights hw) (hX _ _ _ (by rfl) hx) k).mono fun e W' ⟨v,he,hp⟩=> ?_;subst he;exact ChangeSpec.post_blind hp
theorem door.env{W:World}(h:laidMetH Tryz.prog door.list1 W)(hs:W.ShapedOpen Tryz.prog):Env W:=
 ⟨door.tab h,cell_of_shapedOpen_int (zero:= #[.int .i64 0]) (t:=3) (k:=.i64) hs (of_decide_eq_true (by kernel_rfl)) (by kernel_rfl) rfl (by kernel_rfl) (by kernel_rfl) Tryz.underlying3⟩
end Go.Proofs.YtgllcniibbaoaaaGreatDoor
