/- Lemmas of this claim. -/
import Derived.Test.YtkfddjopbocpkaaGreatDoorN35
import Derived.Test.YtkfddjopbocpkaaGreatDoorN38
set_option linter.unusedVariables false
set_option linter.unusedSimpArgs false
set_option maxRecDepth 100000
set_option maxHeartbeats 4000000
namespace Go.Proofs.YtkfddjopbocpkaaGreatDoor
open Go.Lib (hid)
open Go.RowKit
theorem Zeo{P:Program}(w:World)(t ty e:TypeId)(i:TypeInfo)(ht:P.underlying t=some (.slice e))(hi:P.info? e=some i)(a:Option Addr)(n c:Nat)(hn:n≤c):
 (Builtin.append_ #[t,t] ty #[.slice a n c,.slice none 0 0]).run P w=.ok (.slice a n c) w:=by
 cases a<;>simp[Builtin.append_,run_underlying ht,sizeOf,typeInfo,hi,Builtin.lenOf,hn,Builtin.firstCells,storeCells,Result.andThen]
theorem ZaZ{fn:Func}{p t u v:Tmp}(h:fn.results= #[.cell p 50,.tmp t,.tmp u,.tmp v]){tmps:Array Value}{r:Nat}(ht:tmps.getD p undef=.pointer (some ⟨r,0,none⟩)){W:World}{c0 c1:Value}
 (hb:W.heap[r]? =some (.cells #[c0,c1] 50 (0,0))):
 (results fn tmps).run Tryz.prog W=.ok (.tuple #[.agg #[c0,c1],tmps.getD t undef,tmps.getD u undef,tmps.getD v undef]) W:=by
 have a:tmps[p]?.getD undef=.pointer (some ⟨r,0,none⟩):=by simpa using ht
 have hi:(Tryz.prog.info? 50).map (·.size)=some (#[c0,c1]:Array Value).size:=by kernel_rfl
 simp[results,h,a,asAddr,run_loadVar_row W r 50 50 #[c0,c1] (0,0) _ hb Tryz.underlying50 rfl hi]
abbrev zS:Value:=.agg #[.bool false,.slice none 0 0]
def ZlB(R:ZqB)(w:World)(e:Ending)(w':World):Prop:=Fr nob w w'∧match R with
 | .inl (z,p)=>e=.returned (.tuple #[zS,.slice none 0 0,.int .i64 (p:Nat),.int .i64 z])
 | .inr (a,ms)=>∃cv mv,e=.returned (.tuple #[.agg #[.bool a.quiet,cv],mv,.int .i64 0,.int .i64 0])∧Zdw nob w' a.cmds cv∧OwM w' ms mv
theorem ZoJ{w:World}{b:Nat}{a0 a1 v0 v1:Value}{T:TypeId}(h:w.heap[b]? =some (.cells #[a0,a1] T (0,0))):
 ((w.setCell ⟨b,0,none⟩ v0).setCell ⟨b,1,none⟩ v1).heap[b]? =some (.cells #[v0,v1] T (0,0))∧Fr (fun k=>k=b) w ((w.setCell ⟨b,0,none⟩ v0).setCell ⟨b,1,none⟩ v1):=
 ⟨by simpa using Za (Za h 0 v0) 1 v1,((Fr.refl (fun k=>k=b) w).setCell (p:=⟨b,0,none⟩) (fun _=>rfl) v0).setCell (p:=⟨b,1,none⟩) (fun _=>rfl) v1⟩
theorem Zm2(l:List UInt8)(x:BF)(w:World)(hl:l.length≤1000000)(h4:4000<l.length):
 Calls Tryz.prog 18 #[.string ⟨l.toArray⟩,.bool x] w (ZlB (ZdO x l) w):=by
 have hR:ZdO x l=.inl (3,4000):=if_pos h4;have hi:(4000:Int)<l.length:=by omega
 rw[hR];clear hR;obtain⟨w1,a⟩:∃w1,w1=w.alloc (.cells #[.bool false,.slice none 0 0] 50):=⟨_,rfl⟩;have hb:w1.heap[w.heap.size]? =some (.cells #[.bool false,.slice none 0 0] 50 (0,0)):=by rw[a];exact newAt _ _
 have f1:Fr nob w w1:=by rw[a];exact(Fr.refl _ _).alloc _
 have h0:=cell_at (j:=0) hb rfl;have h1:=cell_at (j:=1) hb rfl;have d0:=unfrozen_at hb 0;have d1:=unfrozen_at hb 1;obtain⟨k1,k2⟩:=ZoJ hb (v0:=.bool false) (v1:=.slice none 0 0);have b:=hid a;have K1:=hid k1;have K2:=hid (f1.trans k2 (fun i hi e=>by have e:i=w.heap.size:=e;omega));clear a hb f1 k1 k2;go_enter Tryz.func18,Tryz.ntmps18;go_wp2_with(rw[←b.out]);(try simp only[Exit.inBlock,Exit.then]);exact bodyPost_ret (ZaZ rfl rfl K1.out) rfl ⟨K2.out,rfl⟩
theorem wpList_append_none{P:Program}{w:World}{ops:Array Oper}{rest:List Oper}{o:Oper}{a:Act}{Q:Exit→Act→World→Prop}(hgd:o.guard=none)(s x:Operand)(t:TypeId)
 (ho:o.op=.call {callee:=.builtin .append,args:= #[s,x],argTypes:= #[t,t]}) (e:TypeId) (i:TypeInfo) (ht:P.underlying t=some (.slice e)) (hi:P.info? e=some i)
 (ad:Option Addr) (n c:Nat) (hs:a.eval s=.slice ad n c) (hx:a.eval x=.slice none 0 0) (hn:n≤c)
 (h:wpList P ops Q rest (a.put o.dst (.slice ad n c)) w):wpList P ops Q (o::rest) a w:=by
 refine wpList_plain hgd fun K hK=> ?_;unfold Oper.wp execOp;simp only[ho,resolve,invoke,builtin,Sem.run_bind,Sem.run_pure,Result.andThen_ok,List.map_toArray,List.map_cons,List.map_nil,hs,hx,Zeo w t o.type e i ht hi ad n c hn];exact hK _ _ h
theorem mkC_one:∀(l:List (Nat×List UInt8)),∀u∈mkC l,u.oneCell'=true
 |[],u,h=>by cases h
 |(k,t)::l,u,h=>by
  have e:mkC ((k,t)::l)=.int .i64 (k:Nat):: .string ⟨t.toArray⟩::mkC l:=rfl;rw[e]at h;rcases List.mem_cons.1 h with rfl|h
  ·rfl
  rcases List.mem_cons.1 h with rfl|h
  ·rfl
  ·exact mkC_one l u h
theorem wpList_append_ms{w:World}{ops:Array Oper}{rest:List Oper}{o:Oper}{a:Act}{Q:Exit→Act→World→Prop}(hgd:o.guard=none)(s x:Operand)
 (ho:o.op=.call {callee:=.builtin .append,args:= #[s,x],argTypes:= #[36,36]}) (ms more:List (Nat×List UInt8)) (v v2:Value) (hs:a.eval s=v) (hx:a.eval x=v2)
 (hv:OwM w ms v) (hv2:OwM w more v2) (hlen:ms.length+more.length≤1000000000)
 (h:∀v' w',OwM w' (ms++more) v'→Fr (fun k=>v.ownBlock=some k) w w'→(∀k,v'.ownBlock=some k→v.ownBlock=some k∨w.heap.size≤k)→wpList Tryz.prog ops Q rest (a.put o.dst v') w'):wpList Tryz.prog ops Q (o::rest) a w:=by
 obtain⟨i0,hi,n,p,q⟩:=info_parts Zbv;have l:mkC (ms++more)=mkC ms++mkC more:=by unfold mkC;simp
 have hl:=ZeL more;have r:=hv2;unfold OwM at hv2;rcases hv2.2 with⟨e,hn⟩|⟨g,b,j,e,_⟩
 ·have hm:more=[]:=List.length_eq_zero_iff.1 hn;subst hm;obtain⟨ad,c,rfl⟩:=Zb hv;have m:ms.length≤c:=by
   have i:=hv;unfold OwM at i;rcases i.2 with⟨e,hn⟩|⟨g,b,j,e,_,_,hc,_⟩
   ·omega
   ·injection e with _ _ e;omega
  rw[e]at hx;refine wpList_append_none hgd s x _ ho 55 i0 Tryz.underlying36 hi ad ms.length c hs hx m ?_;refine h _ _ (by rw[List.append_nil];exact hv) (Fr.refl _ _) (fun k hk=>.inl hk)
 ·rw[e]at hx hv2;refine wpList_append_g hgd s x _ ho 55 i0 (.agg #[.int .i64 0,.string ByteArray.empty]) 2 24 Tryz.underlying36 hi n p q rfl (by decide) v ms.length (mkC ms) hs hv ⟨g,0,none⟩ more.length b (mkC more) hx (by rw[hl];omega) (hv2.cells (g:=g) rfl) (mkC_one more) (by unfold maxLen;omega) (by omega) ?_;intro v' w' f d;refine h v' w' ?_ d.fr d.old;unfold OwM;rw[List.length_append,l];exact f
end Go.Proofs.YtkfddjopbocpkaaGreatDoor
