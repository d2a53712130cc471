/- Lemmas of this claim. -/
import Derived.Test.YtgllcniibbaoaaaGreatDoorK32
set_option linter.all false
set_option maxRecDepth 100000
set_option maxHeartbeats 24000000
namespace Go.Proofs.YtgllcniibbaoaaaGreatDoor
open Go.Lib (hid)
open Go.RowKit
attribute [-go_sem] storeVar loadVar Instr.buildSlice
attribute [local go_sem] Zx3 Zx4 Zx1 Zx2 Zyb Zx9
theorem Zyc{fn:Func}{p t u v:Tmp}(h:fn.results= #[.cell p 36,.tmp t,.tmp u,.tmp v]){tmps:Array Value}{r:Nat}(ht:tmps.getD p undef=.pointer (some ⟨r,0,none⟩)){W:World}{cs:Array Value}{X:TypeId}
 (hb:W.heap[r]? =some (.cells cs X (0,0))) (hi:(Tryz.prog.info? 36).map (·.size)=some cs.size):
 (results fn tmps).run Tryz.prog W=.ok (.tuple #[.agg cs,tmps.getD t undef,tmps.getD u undef,tmps.getD v undef]) W:=by
 have a:tmps[p]?.getD undef=.pointer (some ⟨r,0,none⟩):=by simpa using ht
 simp[results,h,a,asAddr,run_loadVar_row W r X 36 cs (0,0) _ hb Tryz.underlying36 rfl hi]
def ZAt(O:Nat→Prop)(R:Out Nd)(w:World)(x:Ending)(w':World):Prop:=Fr nob w w'∧match R with
 | .inl (z,p)=>x=.returned (.tuple #[.agg zT9,.slice none 0 0,.int .i64 (p:Nat),.int .i64 z])
 | .inr (t,s)=>∃(cs:List Value) (ma:Option Addr) (mc:Nat),x=.returned (.tuple #[.agg cs.toArray,.slice ma s.marks.length mc,.int .i64 0,.int .i64 0])∧RT O w' t.rf cs∧MSO O w' s.marks (.slice ma s.marks.length mc)
abbrev PL(w:World)(p:Array Value)(n:Nat)(r t:Array Value):List (Nat×Array Value×TypeId):=[(w.heap.size,p,36),(n,r,123),(n+1,t,36)]
theorem Zy1(l:List UInt8)(ere:Bool)(O:Nat→Prop)(w:World)(hO:∀k,O k→k<w.heap.size)(hl:l.length≤100000):
 Calls Tryz.prog 34 #[.string ⟨l.toArray⟩,.bool ere] w (ZAt O (Zac prg ere l) w):=by
 have L0:=hid ((LB.nil w).push zT9 36 _ rfl);by_cases c:250<l.length
 ·have D:(250:Int)<(l.length:Int):=by omega
  unfold ZAt Zac;rw[if_pos c];go_enter Tryz.func34,Tryz.ntmps34;go_wp2_with(refine L0.out.sto nob 0 rfl rfl _ _ rfl rfl rfl info_dT rfl (one_dT _ _ _ _ _ _ _ _ _ _ _) ?_;intro w7 l7 z1 z2;have L7:=hid l7;clear l7 z1 z2);exact bodyPost_ret (Zyc rfl rfl (L7.out.get 0 rfl) info_dT) rfl ⟨L7.out.fr,rfl⟩
 ·have D:¬(250:Int)<(l.length:Int):=by omega
  unfold Zac;rw[if_neg c];obtain⟨F,hF⟩:∃F,chD prg ere l 12 ⟨0,0,[],[]⟩=F:=⟨_,rfl⟩;have o:∀k,lbB O [w.heap.size] k→k<(w.alloc (.cells zT9 36)).heap.size:=L0.out.below hO;have m:=d_chAt (l:=l) (ere:=ere) (by omega) 12 (Nat.le_refl _) ⟨0,0,[],[]⟩ none 0 none 0 (lbB O [w.heap.size]) (w.alloc (.cells zT9 36)) o ⟨Nat.zero_le _,Nat.le_refl _,Nat.le_refl _,Nat.le_refl _⟩ (fun W _=>.inl ⟨rfl,rfl⟩) (fun W _=>.inl ⟨rfl,rfl⟩);rw[hF]at m⊢;have n:Hid (Calls Tryz.prog 56 #[.agg #[.string ⟨l.toArray⟩,.bool ere,.int .i64 0,.int .i64 0,.slice none 0 0,.slice none 0 0,.int .i64 0,.int .i64 0],.int .i64 0] (w.alloc (.cells zT9 36)) _):=hid m;clear m hF c o;go_enter Tryz.func34,Tryz.ntmps34;go_wp2_with fail;refine n.out.mono ?_;rintro e w1 ⟨f1,h4⟩;have hw:∀k,k<w1.heap.size→lbB O [w.heap.size,w1.heap.size,w1.heap.size+1] k→lbB O [w.heap.size] k:=by
   rintro k hk (x|x)
   ·exact .inl x
   ·simp only[List.mem_cons,List.not_mem_nil,or_false]at x;refine .inr ?_;simp only[List.mem_singleton];omega
  have fa:Fr nob w1 ((w1.alloc (.cells zR 123)).alloc (.cells zT9 36)):=((Fr.refl nob w1).alloc _).alloc _;have L1:Hid (LB w (PL w zT9 w1.heap.size zR zT9) _):=hid (((L0.out.on f1).push zR 123 w1.heap.size rfl).push zT9 36 (w1.heap.size+1) (by simp));clear n;cases F with
  |inl z=>
   obtain⟨z,p⟩:=z;obtain⟨s',i,j,g,h,t',a,rfl,h5,h6,h7⟩:=h4;have h9:=h5.length;have b:=hid (show(Tryz.prog.info? 36).map (·.size)=some a.toArray.size by rw[info_dT];simp[h9]);have d:=hid (Zx0 h5.cell1);have f:=hid (show zT9.size=a.toArray.size by simp[h9]);have hz:(z !=0)=true:=by simpa using h7
   clear h5 h6 h7 f1 fa hw h9 L0;unfold rV;go_wp2_with(first|(refine L1.out.sto O 1 rfl rfl _ _ rfl rfl rfl info_dR rfl (one_dR l ere s' i j g h z p) ?_;intro w2 l9 z1 z2;have L2:=hid l9;have c2:=rule8 (l9.get 1 rfl) w2 (Fr.refl nob w2);clear l9 z1 z2)|(refine L2.out.sto O 2 rfl rfl _ _ rfl rfl rfl b.out f.out d.out ?_;intro w3 l9 z1 z2;have L3:=hid l9;have c3:=rule8 (l9.get 1 rfl) w3 (Fr.refl nob w3);clear l9 z1 z2 c2));refine L3.out.ix 8 0 5 zT9 rfl rfl (by kernel_rfl) (by kernel_rfl) ?_;simp only[List.take_succ_cons,List.take_zero,List.drop_succ_cons,List.drop_zero];refine ix_val (.agg zT9) rfl rfl (fun W=>by go_simp) ?_;refine ix_val (.pointer (some ⟨w1.heap.size,7,none⟩)) rfl rfl (fun W=>by go_simp) ?_;refine ZyF L3.out 1 rfl 7 rfl rfl rfl _ rfl rfl Zx3 (L3.out.ne_at 0 1 rfl rfl (by decide)) ?_;refine ix_val (.pointer (some ⟨w1.heap.size,6,none⟩)) rfl rfl (fun W=>by go_simp) ?_
   refine ZyF L3.out 1 rfl 6 rfl rfl rfl _ rfl rfl Zx3 (L3.out.ne_at 0 1 rfl rfl (by decide)) ?_;refine Zy5 rfl rfl _ _ rfl rfl rfl info_dT (one_dT _ _ _ _ _ _ _ _ _ _ _) rfl ?_;refine ix_val (.slice none 0 0) rfl rfl (fun W=>by go_simp) ?_;refine ix_val (.int .i64 (p:Nat)) rfl rfl (fun W=>by go_simp) ?_;refine Zy6 ?_;intro w7 h7;obtain⟨l7,o7,f7⟩:=L3.out.st1 O 0 rfl h7 rfl;have L7:=hid l7;clear l7 o7 f7 h7;go_wp2;exact bodyPost_ret (Zyc rfl rfl (L7.out.get 0 rfl) info_dT) rfl ⟨L7.out.fr,rfl⟩
  |inr y=>
   obtain⟨t,s'⟩:=y;obtain⟨i,j,g,h,a,rfl,h5,h6,h7⟩:=h4;have h9:=h5.length;have b:=hid (show(Tryz.prog.info? 36).map (·.size)=some a.toArray.size by rw[info_dT];simp[h9]);have d:=hid (Zx0 h5.cell1);have f:=hid (show zT9.size=a.toArray.size by simp[h9]);have v:=hid ((h5.wide hw).on fa);have q:=hid ((h7.wide hw).on fa);clear h5 h6 h7 f1 fa hw L0;unfold rV;go_wp2_with(first|(refine L1.out.sto O 1 rfl rfl _ _ rfl rfl rfl info_dR rfl (one_dR l ere s' i j g h 0 0) ?_;intro w2 l9 z1 z2;have L2:=hid l9;have c2:=rule8 (l9.get 1 rfl) w2 (Fr.refl nob w2);have A:=hid (v.out.step z2 (by simp));have r:=hid (q.out.step z1);clear l9 z1 z2)|(refine L2.out.sto O 2 rfl rfl _ _ rfl rfl rfl b.out f.out d.out ?_;intro w3 l9 z1 z2;have L3:=hid l9;have c3:=rule8 (l9.get 1 rfl) w3 (Fr.refl nob w3);have B:=hid (A.out.step z2 (by simp));have s:=hid (r.out.step z1);clear l9 z1 z2 c2))
   refine L3.out.ix 4 0 3 a.toArray rfl f.out (by kernel_rfl) (by kernel_rfl) ?_;simp only[List.take_succ_cons,List.take_zero,List.drop_succ_cons,List.drop_zero];refine ZzJ L3.out 2 rfl rfl rfl _ rfl rfl Tryz.underlying36 rfl b.out (L3.out.ne_at 0 2 rfl rfl (by decide)) ?_;refine ix_val (.pointer (some ⟨w1.heap.size,5,none⟩)) rfl rfl (fun W=>by go_simp) ?_;refine ZyF L3.out 1 rfl 5 rfl rfl rfl _ rfl rfl Zyb (L3.out.ne_at 0 1 rfl rfl (by decide)) ?_;refine Zy5 rfl rfl _ _ rfl rfl rfl b.out d.out rfl ?_;refine Zy6 ?_;intro w7 h7;obtain⟨l7,o7,f7⟩:=L3.out.st1 O 0 rfl h7 rfl;have L7:=hid l7;have C:=hid (B.out.step f7 (by simp));have u:=hid (s.out.step o7);clear l7 o7 f7 h7;go_wp2;refine bodyPost_ret (Zyc rfl rfl (L7.out.get 0 rfl) b.out) rfl ?_;exact⟨L7.out.fr,a,g,h,rfl,C.out.wide (fun k _ x=>.inl x),u.out.wide (fun k _ x=>.inl x)⟩
end Go.Proofs.YtgllcniibbaoaaaGreatDoor
