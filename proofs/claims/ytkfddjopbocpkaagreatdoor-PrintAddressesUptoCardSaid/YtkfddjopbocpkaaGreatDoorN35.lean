/- Lemmas of this claim. -/
import Derived.Great.BuildSlice
import Derived.Test.YtkfddjopbocpkaaGreatDoorN34
set_option linter.unusedVariables false
set_option linter.unusedSimpArgs false
set_option maxRecDepth 100000
set_option maxHeartbeats 4000000
namespace Go.Proofs.YtkfddjopbocpkaaGreatDoor
open Go.Lib (hid)
open Go.RowKit
theorem Zlz:(Tryz.prog.info? 35).map (fun i=>(i.zero,i.size,i.bytes))=some (some (.agg zC),20,240):=by kernel_rfl
theorem Zm1(w:World){cs:Array Value}(h:cs.size=20):(Instr.buildSlice 48 1 #[(0,.agg cs)]).run Tryz.prog w=.ok (.slice (some ⟨w.heap.size,0,none⟩) 1 1) (w.alloc (.cells cs 35)):=by
 obtain⟨i,hi,hz,h1,_⟩:=info_parts Zlz;refine run_buildSlice w _ 35 1 _ cs i (.agg zC) Tryz.underlying48 hi hz (by rw[h1];decide) (by rw[h1];decide) ?_;have:=Great.fill_whole (s:=20) (by decide) [.agg cs] ((Array.range (1*i.size)).map ((Value.agg zC).cells[·%(Value.agg zC).cells.size]!)) (by intro v hv;simp at hv;subst hv;exact h) (by rw[h1];simp);rw[h1]at this⊢;simpa[Value.cells]using this
theorem info_int1:(Tryz.prog.info? 3).map (fun i=>(i.zero,i.size,i.bytes))=some (some (.int .i64 0),1,8):=by kernel_rfl
theorem ZiP{w:World}{g:Nat}{v:Value}{T:TypeId}{fr:Nat×Nat}(h:w.heap[g]? =some (.cells #[v] T fr)):∀j u,([v]:List Value)[j]? =some u→w.cell? ((⟨g,0,none⟩:Addr).add j)=some u:=by
 intro j u hj
 match j,hj with
 |0,hj=>simp at hj;subst hj;exact cell_at h rfl
theorem ZiQ{w:World}{g:Nat}{cs:Array Value}{T:TypeId}{fr:Nat×Nat}(h:w.heap[g]? =some (.cells cs T fr)):∀j u,cs.toList[j]? =some u→w.cell? ((⟨g,0,none⟩:Addr).add j)=some u:=by
 intro j u hj;have e:(⟨g,0,none⟩:Addr).add j=⟨g,j,none⟩:=by unfold Addr.add;split<;>simp_all
 rw[e];exact cell_at h (by simpa using hj)
theorem ZoE{cs:Array Value}(h:cs.all (·.oneCell')=true):∀u∈cs.toList,u.oneCell'=true:=fun u hu=>Array.all_eq_true_iff_forall_mem.1 h u (by simpa using hu)
theorem ZoF{k:Int}:∀u∈([.int .i64 k]:List Value),u.oneCell'=true:=by
 intro u hu;rw[List.mem_singleton]at hu;subst hu;rfl
theorem run_load1{T:TypeId}{d:TypeDesc}(hu:Tryz.prog.underlying T=some d)(hd:(match d with| .struct _| .array _ _=>true|_=>false)=false)(a:Addr)(w:World):
 Sem.run Tryz.prog (loadVar T a) w=Sem.run Tryz.prog (load a) w:=by
 have b:(isAgg T).run Tryz.prog w=.ok false w:=by
  unfold isAgg;rw[Sem.run_bind,run_underlying hu w];cases d<;>simp_all
 simp[loadVar,Sem.run_bind,b]
theorem ld_u8(a:Addr)(w:World):Sem.run Tryz.prog (loadVar 5 a) w=Sem.run Tryz.prog (load a) w:=run_load1 Tryz.underlying5 rfl a w
theorem ld_int(a:Addr)(w:World):Sem.run Tryz.prog (loadVar 3 a) w=Sem.run Tryz.prog (load a) w:=run_load1 Tryz.underlying3 rfl a w
theorem ld_ints(a:Addr)(w:World):Sem.run Tryz.prog (loadVar 86 a) w=Sem.run Tryz.prog (load a) w:=run_load1 Tryz.underlying86 rfl a w
theorem ld_map(a:Addr)(w:World):Sem.run Tryz.prog (loadVar 85 a) w=Sem.run Tryz.prog (load a) w:=run_load1 Tryz.underlying85 rfl a w
theorem ld_str(a:Addr)(w:World):Sem.run Tryz.prog (loadVar 9 a) w=Sem.run Tryz.prog (load a) w:=run_load1 Tryz.underlying9 rfl a w
theorem ld_cms(a:Addr)(w:World):Sem.run Tryz.prog (loadVar 48 a) w=Sem.run Tryz.prog (load a) w:=run_load1 Tryz.underlying48 rfl a w
theorem bs_int(k:Int)(w:World):(Instr.buildSlice 86 1 #[(0,.int .i64 k)]).run Tryz.prog w=.ok (.slice (some ⟨w.heap.size,0,none⟩) 1 1) (w.alloc (.cells #[.int .i64 k] 3)):=by
 obtain⟨i,hi,hz,h1,_⟩:=info_parts info_int1;refine run_buildSlice w _ 3 1 _ _ i (.int .i64 0) Tryz.underlying86 hi hz (by rw[h1];decide) (by rw[h1];decide) ?_;have:=Great.fill_whole (s:=1) (by decide) [.int .i64 k] ((Array.range (1*i.size)).map ((Value.int .i64 0).cells[·%(Value.int .i64 0).cells.size]!)) (by intro v hv;simp at hv;subst hv;rfl) (by rw[h1];simp);rw[h1]at this⊢;simpa[Value.cells]using this
attribute [-go_sem] loadVar Instr.buildSlice
attribute [local go_sem] ld_u8 ld_int ld_ints ld_map ld_str ld_cms bs_int
def PutAns(b:Nat)(q:Bool)(s:RdS)(S O:Nat→Prop)(c:CV)(w:World)(e:Ending)(w':World):Prop:=
 ∃S',Stp S w S' w'∧match ZbZ c s with
  | .inl z=>e=.returned (.int .i64 z)
  | .inr s'=>e=.returned (.int .i64 0)∧Scd b q s' S' O w'
def ZqZ(b:Nat)(q:Bool)(s:RdS)(S O:Nat→Prop)(c:CV)(w w':World):Prop:=
 ∃s1 S1,Stp S w S1 w'∧Scd b q s1 S1 O w'∧ZbZ c s=.inr {s1 with cmds:=s1.cmds++[c]}∧s1.cmds=s.cmds
theorem ZoG(b:Nat)(q:Bool)(s:RdS)(S O:Nat→Prop)(c:CV)(v:Value)(w:World)(hn:s.cmds.length≤1000)(ho:s.opens.length≤12)(hla:s.labels.length≤1000)(ha:c.at_≤100000)(hS:∀k,S k→k<w.heap.size)(h:Scd b q s S O w)(hc:Zc2 (SO S O) w c v):
 Calls Tryz.prog 37 #[.pointer (some ⟨b,0,none⟩),v] w (PutAns b q s S O c w):=by
 obtain⟨cs,pa,pc,rfl,a4,B,_,_,p⟩:=hc.opened;obtain⟨w1,t⟩:∃w1,w1=w.alloc (.cells cs 35):=⟨_,rfl⟩;have E:w1.heap[w.heap.size]? =some (.cells cs 35 (0,0)):=by rw[t];exact newAt _ _
 have f1:Fr nob w w1:=by rw[t];exact(Fr.refl _ _).alloc _
 have a3:w1.heap.size=w.heap.size+1:=by rw[t];simp
 have rc:=p w1 _ E;have X:Zc2 (SO S O) w1 c (.agg cs):=hc.on f1;have hR:Scd b q s S O w1:=h.on f1;have a8:Stp S w S w1:=Stp.of f1;have b5:=hid t;have a9:=hid E;have b1:=hid X;have HS:=hid hS;have HH:=hid hR;have u:=hid a8;have o:=hid a4;have N:=hid B;have c5:=hid p;have c6:=hid a3;obtain⟨m,cv,ov,hm⟩:=hR;have rr:=Zl hm.blk;have HM:=hid hm;obtain⟨oa,oc,rfl⟩:=Zb hm.op;obtain⟨va,vc,rfl⟩:=hm.cm.shape;have d0:(c.at_:Int)≤100000:=by omega
 have d4:(s.opens.length:Int)≤12:=by omega
 clear h hm hc X a4 B p t E f1 a8 a3 hS;obtain⟨n,G⟩:∃n,c.name=n:=⟨_,rfl⟩;have HN:=hid G;rw[G]at rc;clear G;go_enter Tryz.func37,Tryz.ntmps37;go_upto_block 0 with(rw[←b5.out])
 go_cut [] (fun w'=>ZqZ b q s S O c w1 w')
 case first=>
  by_cases c1:n=123
  ·subst c1;by_cases y:s.opens.length=12
   ·have e1:ZbZ c s=.inl 4:=by unfold ZbZ;rw[if_pos HN.out,if_pos y]
    have t1:((s.opens.length:Int)==12)=true:=by simp;omega
    have E1:=hid e1;clear e1 y;go_wp2;go_ret;exact⟨S,u.out,by rw[E1.out];rfl⟩
   ·have t1:((s.opens.length:Int)==12)=false:=by simp;omega
    have E1:=hid (show ZbZ c s=.inr ⟨s.cmds++[c],s.labels,s.opens++[c.at_]⟩ by unfold ZbZ;rw[if_pos HN.out,if_neg y]);obtain⟨i0,hi,H,I,J⟩:=info_parts info_int1;clear y;go_wp2_with fail
    go_region_law (refine step_append_g rfl (.tmp 19) (.tmp 22) 86 rfl 3 i0 (.int .i64 0) 1 8 Tryz.underlying86 hi H I J rfl (by decide) (.slice oa s.opens.length oc) s.opens.length (s.opens.map fun(n:Nat)=>Value.int .i64 n) (by rfl) (by first|exact ownsRow_fr HM.out.op (((Fr.refl nob w1).alloc _).drew) (fun _ _ x=>x)|exact ownsRow_fr HM.out.op (((Fr.refl nob w1).drew).alloc _) (fun _ _ x=>x)) ⟨w1.heap.size,0,none⟩ 1 1 [.int .i64 (c.at_:Nat)] (by rfl) rfl (by first|exact ZiP (newAt0 w1 _)|exact ZiP (newAt0 w1.drew _)) ZoF (by unfold maxLen;omega) (by omega) ?_;intro v' w3 d l;obtain⟨av,b6,rfl⟩:=Zb d;obtain⟨⟨pc,pf⟩,q1,q2⟩:=(by first|exact HM.out.pushO (((Fr.refl nob w1).alloc _).drew) l d|exact HM.out.pushO (((Fr.refl nob w1).drew).alloc _) l d);have HQ:=hid q1;have HR:=hid q2;clear d l q1 q2)
    all_goals
     go_wp2;go_meet
     case rel=>exact⟨_,_,HR.out,⟨_,_,_,HQ.out⟩,by rw[E1.out],rfl⟩
  ·have t0:((n.toNat:Int)==123)=false:=Zn (b:=123) c1;by_cases c2:n=125
   ·subst c2;by_cases h0:s.opens=[]
    ·have E1:=hid (show ZbZ c s=.inl 16 by unfold ZbZ;rw[HN.out,if_neg (by decide),if_pos rfl,if_pos h0]);have t1:((s.opens.length:Int)==0)=true:=by simp[h0]
     clear h0;go_wp2;go_ret;exact⟨S,u.out,by rw[E1.out];rfl⟩
    ·have hp:0<s.opens.length:=by cases hq:s.opens with|nil=>exact absurd hq h0|cons a r=>simp
     have E1:=hid (show ZbZ c s=.inr ⟨s.cmds++[c],s.labels,s.opens.dropLast⟩ by unfold ZbZ;rw[HN.out,if_neg (by decide),if_pos rfl,if_neg h0]);have t1:((s.opens.length:Int)==0)=false:=by simp;omega
     obtain⟨g,rfl,A⟩:∃g,oa=some ⟨g,0,none⟩∧s.opens.length≤oc:=by
      have a1:=HM.out.op;unfold OwC at a1;rcases a1.2 with⟨_,e⟩|⟨g,c7,c8,e,_,_,A,_⟩
      ·omega
      ·injection e with e e' e'';subst e;subst e'';exact⟨g,rfl,A⟩
     have d5:(1:Int)≤s.opens.length:=by omega
     have b8:(s.opens.length:Int)≤oc:=by omega
     obtain⟨q1,q2⟩:=HM.out.popO hp;have HQ:=hid q1;have HR:=hid q2;clear q1 q2 h0;go_wp2_with fail
     go_region
     go_wp2;go_meet
     case rel=>exact⟨_,_,HR.out.trans (Stp.of (Fr.drew (Fr.refl _ _))),⟨_,_,_,HQ.out.on (Fr.drew (Fr.refl _ _))⟩,by rw[E1.out],rfl⟩
   ·have t2:((n.toNat:Int)==125)=false:=Zn (b:=125) c2;by_cases c3:n=58
    ·subst c3;obtain⟨i,j⟩:∃i,s.labels.count c.arg=i:=⟨_,rfl⟩;have d1:i≤s.labels.length:=by rw[←j];exact List.count_le_length
     have F:∀w',Fr nob w1 w'→(Instr.lookup 85 (.map (some m)) (.string ⟨c.arg.toArray⟩) false).run Tryz.prog w'=.ok (.int .i64 (i:Nat)) w':=fun w' f=>by
      rw[←j];exact ZfB (P:=Tryz.prog) (mty:=85) (kt:=9) (et:=3) Tryz.underlying85 Tryz.underlying9 (fun w=>by kernel_rfl) (HM.out.mp.fr f (fun x=>x)) c.arg
     have a7:∀w',Fr nob w1 w'→∃w2,(Instr.mapUpdate 85 (.map (some m)) (.string ⟨c.arg.toArray⟩) (.int .i64 ((i:Nat)+1))).run Tryz.prog w'=.ok () w2∧Scd b q ⟨s.cmds,s.labels++[c.arg],s.opens⟩ S O w2∧Stp S w1 S w2:=fun w' f=>by
      obtain⟨w2,h1,h2,h3⟩:=ZgY (P:=Tryz.prog) (mty:=85) (kt:=9) (et:=3) Tryz.underlying85 Tryz.underlying9 (HM.out.mp.fr f (fun x=>x)) c.arg;rw[j]at h1;obtain⟨h4,h5⟩:=(HM.out.on f).label h2 h3;exact⟨w2,h1,⟨_,_,_,h4⟩,(Stp.of f).trans h5⟩
     have b4:=hid a7;have L:=hid j;have b8:(i:Int)≤1000:=by omega
     clear a7 j;by_cases h0:0<i
     ·have E1:=hid (show ZbZ c s=.inl 15 by unfold ZbZ;rw[HN.out,if_neg (by decide),if_neg (by decide),if_pos rfl,if_pos (by have:=L.out;rw[List.contains_iff_mem];exact List.count_pos_iff.1 (by omega))]);have t3:(0:Int)<i:=by omega
      clear h0;go_wp2_with fail;refine region_fr 6 (by kernel_rfl) (by kernel_rfl) ?_;simp only[List.take_succ_cons,List.take_zero,List.drop_succ_cons,List.drop_zero]
      repeat(quiet_step (fail))
      refine wpQuiet_nil ?_;intro wC fC;have hl:=F wC fC;go_wp2;go_ret;exact⟨S,u.out.trans (Stp.of fC),by rw[E1.out];rfl⟩
     ·have b7:i=0:=by omega
      subst b7;have E1:=hid (show ZbZ c s=.inr ⟨s.cmds++[c],s.labels++[c.arg],s.opens⟩ by unfold ZbZ;rw[HN.out,if_neg (by decide),if_neg (by decide),if_pos rfl,if_neg (by have:=L.out;rw[List.contains_iff_mem];exact List.count_eq_zero.1 this)]);clear h0;go_wp2_with fail;refine region_fr 6 (by kernel_rfl) (by kernel_rfl) ?_;simp only[List.take_succ_cons,List.take_zero,List.drop_succ_cons,List.drop_zero]
      repeat(quiet_step (fail))
      refine wpQuiet_nil ?_;intro wC fC;have hl:=F wC fC;go_wp2_with fail;refine region_fr 6 (by kernel_rfl) (by kernel_rfl) ?_;simp only[List.take_succ_cons,List.take_zero,List.drop_succ_cons,List.drop_zero]
      repeat(quiet_step (fail))
      refine wpQuiet_nil ?_;intro wD fD;have U:=fC.trans' fD;have d3:=F wD U;obtain⟨w2,b9,a5,a6⟩:=b4.out wD U;have b2:=hid a5;have b3:=hid a6;clear a5 a6;rw[show(((0:Nat):Int)+1)=1 from rfl]at b9;go_wp2;go_meet
      case rel=>exact⟨_,_,b3.out,b2.out,by rw[E1.out],rfl⟩
    ·have t3:((n.toNat:Int)==58)=false:=Zn (b:=58) c3;have E1:=hid (show ZbZ c s=.inr ⟨s.cmds++[c],s.labels,s.opens⟩ by unfold ZbZ;rw[HN.out,if_neg c1,if_neg c2,if_neg c3]);clear c1 c2 c3;go_wp2;go_meet
     case rel=>exact⟨s,S,Stp.refl _ _,HH.out,by rw[E1.out],rfl⟩
 case rest=>
  obtain⟨s1,S1,st,⟨m1,c9,d6,h1⟩,D,Z⟩:=hcut;have a0:¬S w.heap.size:=fun e=>by have:=HS.out _ e;omega
  have V:wc.heap[w.heap.size]? =some (.cells cs 35 (0,0)):=st.fr.heap a9.out a0;have Y:Zc2 (SO S1 O) wc c (.agg cs):=b1.out.keep st.fr (fun k hk=>.inl hk) (fun k hk e=>e.elim (fun e=>.inl (st.old k hk e)) .inr);obtain⟨rs,a2,C⟩:=h1.cm;have d2:s1.cmds.length≤1000:=by rw[Z];exact hn
  obtain⟨c0,c4,rfl⟩:=h1.cm.shape;have d7:=Zl h1.blk;obtain⟨i0,hi,H,I,J⟩:=info_parts Zlz;have M:=hid h1;have Q:=hid D;have ST:=hid st;have b0:=hid V;have K:=hid Y;have R:=hid a2;have z:=hid C;have hB:∀W,(Instr.buildSlice 48 1 #[(0,.agg cs)]).run Tryz.prog W=.ok (.slice (some ⟨W.heap.size,0,none⟩) 1 1) (W.alloc (.cells cs 35)):=fun W=>Zm1 W o.out;clear h1 D st V Y a2 C rr rc Z a0;have hL:∀W,Fr nob wc W→(loadVar 35 ⟨w.heap.size,0,none⟩).run Tryz.prog W=.ok (.agg cs) W:=fun W f=>run_loadVar_row W w.heap.size 35 35 cs (0,0) _ (f.heap b0.out (fun x=>x)) Tryz.underlying35 rfl (by rw[o.out];exact info_C);go_wp2_with fail
  go_region_law (refine step_append_g rfl (.tmp 71) (.tmp 73) 48 rfl 35 i0 (.agg zC) 20 240 Tryz.underlying48 hi H I J rfl (by decide) (.slice c0 s1.cmds.length c4) s1.cmds.length (flatR rs) (by rfl) (by first|exact ownsRow_fr z.out (((Fr.refl nob wc).alloc _).drew) (fun _ _ x=>x)|exact ownsRow_fr z.out (((Fr.refl nob wc).drew).alloc _) (fun _ _ x=>x)) ⟨wc.heap.size,0,none⟩ 1 1 cs.toList (by rfl) (by rw[Array.length_toList,o.out]) (by first|exact ZiQ (newAt0 wc _)|exact ZiQ (newAt0 wc.drew _)) (ZoE N.out) (by unfold maxLen;omega) (by omega) ?_;intro v' w3 d l;obtain⟨av,b6,rfl⟩:=Zb d;obtain⟨⟨pc,pf⟩,q1,q2⟩:=(by first|exact M.out.pushC (((Fr.refl nob wc).alloc _).drew) l K.out o.out R.out d|exact M.out.pushC (((Fr.refl nob wc).drew).alloc _) l K.out o.out R.out d);have HQ:=hid q1;have HR:=hid q2;clear d l q1 q2)
  all_goals
   go_wp2;go_ret;exact⟨_,(u.out.trans ST.out).trans HR.out,by rw[Q.out];exact⟨rfl,_,_,_,HQ.out⟩⟩
end Go.Proofs.YtkfddjopbocpkaaGreatDoor
namespace Go.Proofs.YtkfddjopbocpkaaGreatDoor
open Go.Lib (hid)
open Go.RowKit
theorem ZaN{P:Program}{ops:Array Oper}{C:World→Prop}{Q:Act→Prop}{o:Oper}{rest:List Oper}{a:Act}(hw:Region.wanted o (yielded ops a.tmps)=true)(ty:TypeId)(x:Operand)(ho:o.op=.load ty x)
 (g:Nat) (hx:a.eval x=.pointer (some ⟨g,0,none⟩)) (t:TypeId) (cs:Array Value) (fr:Nat×Nat) (d:TypeDesc) (hg:∀w,C w→w.heap[g]? =some (.cells cs t fr))
 (hu:P.underlying ty=some d) (hd:(match d with| .struct _| .array _ _=>true|_=>false)=true) (hi:(P.info? ty).map (·.size)=some cs.size)
 (h:wpQuiet P ops C Q rest (a.put o.dst (.agg cs))):wpQuiet P ops C Q (o::rest) a:=by
 unfold wpQuiet;rw[if_pos hw];refine⟨.agg cs,fun w hc=> ?_,h⟩;unfold Oper.quietAt execOp;simp only[ho,hx,Instr.loadAt,Instr.sureAddr,Sem.run_bind,Sem.run_pure,Result.andThen_ok,run_loadVar_row w g t ty cs fr d (hg w hc) hu hd hi];exact⟨rfl,rfl⟩
def ZaX(s:RdS)(e:Ending):Prop:=match Za8 s with
 |some (z,p)=>e=.returned (.tuple #[.int .i64 (p:Nat),.int .i64 z])
 |none=>e=.returned (.tuple #[.int .i64 0,.int .i64 0])
theorem ZjF{s:RdS}(h:0<s.opens.length):∃hk:s.opens.length-1<s.opens.length,Za8 s=some (16,s.opens[s.opens.length-1]):=by
 refine⟨by omega,?_⟩;unfold Za8;rw[List.getLast?_eq_getElem?,List.getElem?_eq_getElem (by omega)]
theorem ZjG{s:RdS}(h:s.opens.length=0):Za8 s=match s.cmds.find? (Zcc s.labels)with|some c=>some (14,c.at_)|none=>none:=by
 have:s.opens=[]:=List.length_eq_zero_iff.1 h;unfold Za8;rw[this];rfl
theorem ZoH{α:Type}{p:α→Bool}{l:List α}{k:Nat}(hk:k<l.length)(h0:∀j (hj:j<l.length),j<k→p l[j]=false)(h1:p l[k]=true):l.find? p=some l[k]:=by
 induction l generalizing k with
 |nil=>simp at hk
 |cons a r ih=>
  cases k with
  |zero=>exact List.find?_cons_of_pos h1
  |succ k=>
   have h:=h0 0 (by simp) (by omega);rw[List.find?_cons_of_neg (l:=r) (by simpa using h)];exact ih (k:=k) (by simpa using hk) (fun j hj hjk=>h0 (j+1) (by simpa using hj) (by omega)) h1
theorem ZoI{α:Type}{p:α→Bool}{l:List α}(h0:∀j (hj:j<l.length),p l[j]=false):l.find? p=none:=by
 rw[List.find?_eq_none];intro x hx;obtain⟨j,hj,rfl⟩:=List.getElem_of_mem hx;rw[h0 j hj];decide
theorem ZlA(b:Nat)(q:Bool)(s:RdS)(S O:Nat→Prop)(w:World)(hn:s.cmds.length≤1000)(ho:s.opens.length≤12)(h:Scd b q s S O w):
 Calls Tryz.prog 38 #[.pointer (some ⟨b,0,none⟩)] w fun e w'=>ZaX s e∧Fr nob w w':=by
 obtain⟨m,cv,ov,h⟩:=h;have rr:=Zl h.blk;obtain⟨oa,oc,rfl⟩:=Zb h.op;obtain⟨va,vc,rfl⟩:=h.cm.shape;have HM:=hid h;clear h;by_cases h0:0<s.opens.length
 ·obtain⟨hk,hw⟩:=ZjF h0;obtain⟨p,hp⟩:∃p,s.opens[s.opens.length-1]=p:=⟨_,rfl⟩;rw[hp]at hw;obtain⟨g,hg,hc⟩:∃g,oa=some ⟨g,0,none⟩∧w.cell? ⟨g,s.opens.length-1,none⟩=some (.int .i64 (p:Nat)):=by
   have E:=HM.out.op;unfold OwC at E;rcases E.2 with⟨_,e⟩|⟨g,U,Z,e,_⟩
   ·omega
   ·injection e with e;subst e;refine⟨g,rfl,(E.cellAt (s.opens.length-1) (by simp;omega)).trans ?_⟩;rw[List.getElem?_map,List.getElem?_eq_getElem hk,hp];rfl
  subst hg;have HW:=hid (show ZaX s (.returned (.tuple #[.int .i64 (p:Nat),.int .i64 16])) by unfold ZaX;rw[hw]);have hi:(0:Int)<s.opens.length:=by omega
  have a4:(s.opens.length:Int)≤12:=by omega
  clear hw hp hk;go_enter Tryz.func38,Tryz.ntmps38;go_wp2;go_ret2;exact⟨HW.out,Fr.refl _ _⟩
 ·have J:s.opens.length=0:=by omega
  have I:=hid (ZjG J);have hi:¬(0:Int)<s.opens.length:=by omega
  clear h0 J;go_enter Tryz.func38,Tryz.ntmps38;go_wp2
  go_loopw [28] (fun v wr=>∃k:Nat,v=.int .i64 k∧k≤s.cmds.length∧(∀j (hj:j<s.cmds.length),j<k→Zcc s.labels s.cmds[j]=false)∧Fr nob w wr) (fun v _=>s.cmds.length-(intOf v).toNat)
  case atStart=>exact⟨0,rfl,Nat.zero_le _,fun _ _ h=>absurd h (Nat.not_lt_zero _),Fr.refl _ _⟩
  case round=>
   obtain⟨k,rfl,hk,t,fr⟩:=hrel;have FR:=hid fr;by_cases K:k<s.cmds.length
   ·obtain⟨g,U,r,e,a3,hr,hv,L⟩:=HM.out.cm.get K;injection e with e1 _ e2;subst e1;subst e2;obtain⟨c,hc⟩:∃c,s.cmds[k]=c:=⟨_,rfl⟩;rw[hc]at hv;obtain⟨cs,pa,pc,e3,X,u,_,_,z⟩:=hv.opened;injection e3 with e3;subst e3;have y:wr.rangeAt g (k*20) r.toList:=fun j v hj=>fr.cell (L j v hj) (fun x=>x);obtain⟨w1,F⟩:∃w1,w1=(wr.alloc (.cells zC 35)).setRow wr.heap.size r:=⟨_,rfl⟩;obtain⟨o,f1⟩:=Zen wr r;rw[←F]at o f1;have rc:=z w1 _ o;have R:=hid F;have F1:=hid (fr.trans' f1);have l:=hid o;have Q:=hid y;have HI:=hid (show(Tryz.prog.info? 35).map (·.size)=some r.size by rw[hr];exact info_C);have N:=hid (show(Tryz.prog.info? 35).map (·.size)=some r.toList.length by rw[Array.length_toList,hr];exact info_C);have HZ:=hid (show zC.size=r.size by rw[hr];rfl);have HO:=hid u;have M:=hid (hv.any.on F1.out);have n:=hid t;have HC:=hid hc;have Y:(k:Int)<s.cmds.length:=by omega
    clear L y hv u z F f1 o fr t hc hr X;go_wp2_with(first|(refine wpList_load_mid rfl 35 _ rfl g (k*20) ?_ r.toList _ Q.out Tryz.underlying35 rfl N.out ?_)|refine wpList_store_row rfl 35 _ _ rfl wr.heap.size r rfl rfl 35 _ (newAt _ _) HI.out HZ.out HO.out ?_|rw[←R.out]);have HJ:=hid (fun(w':World) (f:Fr nob w1 w')=>Zly c (.agg r) w' (M.out.on f));obtain⟨jc,D⟩:∃jc,ZiD c=jc:=⟨_,rfl⟩;rw[D]at HJ;have A:=hid D;clear D;obtain⟨a,d⟩:∃a,s.labels.count c.arg=a:=⟨_,rfl⟩;have a2:a≤s.labels.length:=by rw[←d];exact List.count_le_length
    have i:∀w',Fr nob w1 w'→(Instr.lookup 85 (.map (some m)) (.string ⟨c.arg.toArray⟩) false).run Tryz.prog w'=.ok (.int .i64 (a:Nat)) w':=fun w' f=>by
     rw[←d];exact ZfB (P:=Tryz.prog) (mty:=85) (kt:=9) (et:=3) Tryz.underlying85 Tryz.underlying9 (fun w=>by kernel_rfl) (HM.out.mp.fr (F1.out.trans' f) (fun x=>x)) c.arg
    have H:=hid d;clear d;have a5:=Zl (F1.out.heap HM.out.blk (fun x=>x));clear rr;obtain⟨ar,C⟩:∃ar,c.arg=ar:=⟨_,rfl⟩;rw[C]at rc i;have G:=hid C;clear C;cases jc with
    |false=>
     have HL:=hid (show Zcc s.labels c=false by unfold Zcc;rw[A.out];rfl);refine region_fr 14 (by kernel_rfl) (by kernel_rfl) ?_;simp only[List.take_succ_cons,List.take_zero,List.drop_succ_cons,List.drop_zero];refine ZaN (by kernel_rfl) 35 _ rfl wr.heap.size rfl 35 r (0,0) _ (fun w' hw'=>(Zde hw').heap l.out (fun x=>x)) Tryz.underlying35 rfl HI.out ?_;simp only[Act.put,List.setIfInBounds_toArray,List.set_cons_succ,List.set_cons_zero]
     repeat(go_big_quiet_step ((with_reducible exact calls_fr (HJ.out _ (grown_fr _ _ _)))))
     refine wpQuiet_nil ?_;intro wC fC;have hl:=i wC fC;go_wp2;go_roundw
     case rel=>exact⟨k+1,by simp,by omega,fun j hj hjk=>(by rcases Nat.lt_succ_iff_lt_or_eq.1 hjk with h|rfl;(·exact n.out j hj h);(·rw[HC.out];exact HL.out)),F1.out.trans' fC⟩
     case measure=>simp[intOf];omega
    |true=>
     cases ar with
     |nil=>
      have HL:=hid (show Zcc s.labels c=false by unfold Zcc;rw[A.out,G.out];rfl);refine region_fr 14 (by kernel_rfl) (by kernel_rfl) ?_;simp only[List.take_succ_cons,List.take_zero,List.drop_succ_cons,List.drop_zero];refine ZaN (by kernel_rfl) 35 _ rfl wr.heap.size rfl 35 r (0,0) _ (fun w' hw'=>(Zde hw').heap l.out (fun x=>x)) Tryz.underlying35 rfl HI.out ?_;simp only[Act.put,List.setIfInBounds_toArray,List.set_cons_succ,List.set_cons_zero]
      repeat(go_big_quiet_step ((with_reducible exact calls_fr (HJ.out _ (grown_fr _ _ _)))))
      refine wpQuiet_nil ?_;intro wC fC;have hl:=i wC fC;go_wp2;go_roundw
      case rel=>exact⟨k+1,by simp,by omega,fun j hj hjk=>(by rcases Nat.lt_succ_iff_lt_or_eq.1 hjk with h|rfl;(·exact n.out j hj h);(·rw[HC.out];exact HL.out)),F1.out.trans' fC⟩
      case measure=>simp[intOf];omega
     |cons a0 ar=>
      by_cases h0:0<a
      ·have HL:=hid (show Zcc s.labels c=false by
        unfold Zcc;have:s.labels.contains c.arg=true:=by have:=H.out;rw[List.contains_iff_mem];exact List.count_pos_iff.1 (by omega)
        rw[this];simp)
       have a1:¬(a:Int)=0:=by omega
       refine region_fr 14 (by kernel_rfl) (by kernel_rfl) ?_;simp only[List.take_succ_cons,List.take_zero,List.drop_succ_cons,List.drop_zero];refine ZaN (by kernel_rfl) 35 _ rfl wr.heap.size rfl 35 r (0,0) _ (fun w' hw'=>(Zde hw').heap l.out (fun x=>x)) Tryz.underlying35 rfl HI.out ?_;simp only[Act.put,List.setIfInBounds_toArray,List.set_cons_succ,List.set_cons_zero]
       repeat(go_big_quiet_step ((with_reducible exact calls_fr (HJ.out _ (grown_fr _ _ _)))))
       refine wpQuiet_nil ?_;intro wC fC;have hl:=i wC fC;go_wp2;go_roundw
       case rel=>exact⟨k+1,by simp,by omega,fun j hj hjk=>(by rcases Nat.lt_succ_iff_lt_or_eq.1 hjk with h|rfl;(·exact n.out j hj h);(·rw[HC.out];exact HL.out)),F1.out.trans' fC⟩
       case measure=>simp[intOf];omega
      ·have V:a=0:=by omega
       subst V;have HL:=hid (show Zcc s.labels c=true by
        unfold Zcc;have:s.labels.contains c.arg=false:=by have:=H.out;have h:=List.count_eq_zero.1 this;simpa using h
        rw[this,A.out,G.out];rfl)
       have B:=hid (show ZaX s (.returned (.tuple #[.int .i64 (c.at_:Nat),.int .i64 14])) by
        unfold ZaX;rw[I.out,ZoH K (fun j hj hjk=>n.out j hj hjk) (by rw[HC.out];exact HL.out)];simp only[HC.out])
       refine region_fr 14 (by kernel_rfl) (by kernel_rfl) ?_;simp only[List.take_succ_cons,List.take_zero,List.drop_succ_cons,List.drop_zero];refine ZaN (by kernel_rfl) 35 _ rfl wr.heap.size rfl 35 r (0,0) _ (fun w' hw'=>(Zde hw').heap l.out (fun x=>x)) Tryz.underlying35 rfl HI.out ?_;simp only[Act.put,List.setIfInBounds_toArray,List.set_cons_succ,List.set_cons_zero]
       repeat(go_big_quiet_step ((with_reducible exact calls_fr (HJ.out _ (grown_fr _ _ _)))))
       refine wpQuiet_nil ?_;intro wC fC;have hl:=i wC fC;go_wp2;go_ret2;exact⟨B.out,F1.out.trans' fC⟩
   ·have W:k=s.cmds.length:=by omega
    subst W;have B:=hid (show ZaX s (.returned (.tuple #[.int .i64 0,.int .i64 0])) by unfold ZaX;rw[I.out,ZoI (fun j hj=>t j hj hj)]);clear t hk;go_wp2;go_ret2;exact⟨B.out,FR.out⟩
end Go.Proofs.YtkfddjopbocpkaaGreatDoor
