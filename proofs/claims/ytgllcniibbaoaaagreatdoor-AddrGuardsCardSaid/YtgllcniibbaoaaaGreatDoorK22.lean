/- Lemmas of this claim. -/
import Derived.Test.YtgllcniibbaoaaaGreatDoorK21
set_option linter.all false
set_option maxRecDepth 100000
set_option maxHeartbeats 24000000
namespace Go.Proofs.YtgllcniibbaoaaaGreatDoor
open Go.Lib (hid)
open Go.RowKit
abbrev xC(mv:Value)(p z:Int):Array Value:= #[mv,.int .i64 p,.int .i64 z]
theorem info_dX:(Tryz.prog.info? 55).map (·.size)=some 3:=by kernel_rfl
theorem ZBy{fn:Func}{p:Tmp}(h:fn.results= #[.cell p 55]){tmps:Array Value}{r:Nat}(ht:tmps.getD p undef=.pointer (some ⟨r,0,none⟩)){W:World}{cs:Array Value}{X:TypeId}
 (hb:W.heap[r]? =some (.cells cs X (0,0))) (h3:cs.size=3):(results fn tmps).run Tryz.prog W=.ok (.agg cs) W:=by
 have a:tmps[p]?.getD undef=.pointer (some ⟨r,0,none⟩):=by simpa using ht
 simp[results,h,a,asAddr,run_loadVar_row W r X 55 cs (0,0) _ hb Tryz.underlying55 rfl (by rw[h3];exact info_dX)]
theorem one_dX(a:Option Addr)(n c:Nat)(p z:Int):(xC (.slice a n c) p z).all (·.oneCell')=true:=by simp[Value.oneCell']
section
attribute [-go_sem] storeVar
theorem x_bad(z p:Int)(w:World):Calls Tryz.prog 43 #[.int .i64 z,.int .i64 p] w fun x w'=>x=.returned (.agg (xC (.slice none 0 0) p z))∧Fr nob w w':=by
 have L0:=hid ((LB.nil w).push (xC (.slice none 0 0) 0 0) 55 _ rfl);go_enter Tryz.func43,Tryz.ntmps43;go_wp2_with(refine L0.out.sto nob 0 rfl rfl _ _ rfl rfl rfl info_dX rfl (one_dX none 0 0 p z) ?_;intro w7 l7 z1 z2;have L7:=hid l7;clear l7 z1 z2);exact bodyPost_ret (ZBy rfl rfl (L7.out.get 0 rfl) rfl) rfl ⟨rfl,L7.out.fr⟩
end
def DOw(B:Nat)(w:World)(l:List (Nat×List UInt8))(v:Value):Prop:=w.ownsRow 0 96 2 v l.length (mkC l)∧∀k,v.ownBlock=some k→B≤k
theorem DOw.nil(B:Nat)(w:World):DOw B w [] (.slice none 0 0):=⟨World.ownsRow_nil _ _ _ _,fun _ h=>(by cases h)⟩
theorem DOw.ms{B:Nat}{w:World}{l:List (Nat×List UInt8)}{v:Value}(h:DOw B w l v):MS w l v:=MS.of_own h.1
theorem DOw.on{B:Nat}{w w':World}{l:List (Nat×List UInt8)}{v:Value}(h:DOw B w l v)(f:Fr nob w w'):DOw B w' l v:=⟨ownsRow_fr h.1 f (fun _ _ x=>x),h.2⟩
theorem DOw.step{B:Nat}{X:Nat→Prop}{w w':World}{l:List (Nat×List UInt8)}{v:Value}(h:DOw B w l v)(f:Fr X w w')(hX:∀k,B≤k→X k→False):DOw B w' l v:=⟨ownsRow_fr h.1 f (fun k hk x=>hX k (h.2 k hk) x),h.2⟩
theorem DOw.weak{B B':Nat}{w:World}{l:List (Nat×List UInt8)}{v:Value}(h:DOw B w l v)(hb:B'≤B):DOw B' w l v:=⟨h.1,fun k hk=>Nat.le_trans hb (h.2 k hk)⟩
theorem DOw.shape{B:Nat}{w:World}{l:List (Nat×List UInt8)}{v:Value}(h:DOw B w l v):∃a c,v=.slice a l.length c:=Zb h.1
theorem ZBT(ms:List (Nat×List UInt8))(mv:Value)(k0:Nat)(w:World)(hl:ms.length≤100000)(hk0:k0≤100000)(hb:∀m∈ms,m.1≤100000)(hm:MS w ms mv):
 Calls Tryz.prog 73 #[mv,.int .i64 (k0:Nat)] w fun x w'=>∃v,x=.returned v∧Fr nob w w'∧DOw w.heap.size w' (ms.map (shM k0)) v:=by
 obtain⟨ma,mc,rfl⟩:=hm.shape;have HM:=hid hm;have HB:=hid hb;clear hm hb;go_enter Tryz.func73,Tryz.ntmps73;go_wp2_with fail
 go_loopw [5,9] (fun v i wr=>∃k:Nat,i=.int .i64 k∧k≤ms.length∧Fr nob w wr∧DOw w.heap.size wr ((ms.take k).map (shM k0)) v) (fun _ i _=>ms.length-(intOf i).toNat)
 case atStart=>exact⟨0,rfl,Nat.zero_le _,Fr.refl _ _,DOw.nil _ _⟩
 case round=>
  obtain⟨k,rfl,hk,fr,hv⟩:=hrel;have FR:=hid fr;clear fr;by_cases l:k<ms.length
  ·obtain⟨g,off,s,e1,c0,c1⟩:=(HM.out.on FR.out).get l;injection e1 with e1 _ e3;subst e1;subst e3;have d:=Zit k0 ms l;obtain⟨m,n⟩:∃m,ms[k]=m:=⟨_,rfl⟩;have r:m.1≤100000:=by rw[←n];exact HB.out _ (List.getElem_mem l)
   rw[n]at c0 c1 d;obtain⟨a,b⟩:=m;simp only at c0 c1 r;have u:IntKind.i64.wrap ((a:Int)+(k0:Int))=((k0+a:Nat):Int):=by rw[IntWalk.i64_in _ (by omega)];omega
   obtain⟨L,hL⟩:∃L,(ms.take k).map (shM k0)=L:=⟨_,rfl⟩;have t:L.length≤200000:=by rw[←hL,List.length_map,List.length_take];omega
   rw[hL]at hv d;obtain⟨av,cv,rfl⟩:=hv.shape;have HV:=hid hv;have q:=hid d;have q0:=fun W (f:Fr nob wr W)=>f.cell c0 (fun x=>x);have q1:=fun W (f:Fr nob wr W)=>f.cell c1 (fun x=>x);have Q0:=hid q0;have Q1:=hid q1;have d0:=q0 _ ((Fr.refl nob wr).drew);have d1:=q1 _ ((Fr.refl nob wr).drew);clear hv d n hL q0 q1;go_wp2_with fail
   go_region_law (refine step_append_ms rfl (.tmp 12) (.tmp 26) rfl L [(k0+a,b)] _ _ (by rfl) (ownsRow_fr HV.out.1 (by repeat(first|exact Fr.refl _ _|apply Fr.alloc|apply Fr.drew)) (fun _ _ x=>x)) (by rfl) (MS.one (by first|exact newAt0 _ _|exact heap_alloc_new' _ _ _ (by simp))) (by simp only[List.length_singleton];omega) ?_;intro v' w6 c hf h;have p:=hid c;have FA:=hid (Fr.trans (S:=nob) (a:=w) (by repeat(first|exact FR.out|apply Fr.alloc|apply Fr.drew)) hf (fun i hi e=>by have:=HV.out.2 i e;omega));have o:=hid (show∀j,v'.ownBlock=some j→w.heap.size≤j from fun j hj=>(h j hj).elim (HV.out.2 j) (fun e=>Nat.le_trans (Fr.size (S:=nob) (by repeat(first|exact FR.out|apply Fr.alloc|apply Fr.drew))) e));clear c hf h)
   all_goals
    go_wp2;go_roundw
    case rel=>exact⟨k+1,by go_num,by omega,FA.out,by rw[q.out];exact⟨p.out,o.out⟩⟩
    case measure=>simp[intOf];omega
  ·obtain rfl:k=ms.length:=by omega
   rw[List.take_of_length_le (Nat.le_refl _)]at hv;have HV:=hid hv;clear hv;go_wp2;go_ret;exact⟨_,rfl,FR.out,HV.out⟩
end Go.Proofs.YtgllcniibbaoaaaGreatDoor
