/-
  Merged texts of this claim: CmdQ.
-/
import Derived.Test.YtkfddjopbocpkaaGreatDoorM34
import Derived.Test.YtkfddjopbocpkaaGreatDoorM35
set_option linter.unusedVariables false
set_option linter.unusedSimpArgs false
set_option maxRecDepth 100000
set_option maxHeartbeats 4000000
namespace Go.Proofs.YtkfddjopbocpkaaGreatDoor
open Go.Lib (hid)
open Go.RowKit
theorem Zed.opened{S:Nat→Prop}{w:World}{c:CV}{v:Value}(h:Zed S w c v):∃(cs:Array Value) (pa:Option Addr) (pc:Nat),v=.agg cs∧cs.size=20∧cs.all (·.oneCell')=true∧
 OwP w c.sub.parts (.slice pa c.sub.parts.length pc)∧(∀k,(Value.slice pa c.sub.parts.length pc).ownBlock=some k→¬S k)∧
 ∀W b,W.heap[b]? =some (.cells cs 35 (0,0))→∀W',Fr nob W W'→W'.cell? ⟨b,0,none⟩=some (.int .i64 c.at_)∧W'.cell? ⟨b,10,none⟩=some (.int .u8 (c.name.toNat:Int))∧W'.cell? ⟨b,11,none⟩=some (.string ⟨c.arg.toArray⟩)∧
  W'.cell? ⟨b,14,none⟩=some (.slice pa c.sub.parts.length pc)∧W'.cell? ⟨b,15,none⟩=some (.int .i64 c.sub.nth)∧W'.cell? ⟨b,16,none⟩=some (.bool c.sub.all)∧W'.cell? ⟨b,17,none⟩=some (.bool c.sub.print)∧
  W'.cell? ⟨b,18,none⟩=some (.string ⟨c.sub.file.toArray⟩)∧W'.cell? ⟨b,19,none⟩=some (.string ⟨c.table.toArray⟩):=by
 obtain⟨u1,u2,u,pv,rfl,r1,r2,r3,po⟩:=h;have o1:u1.oneCell'=true:=by rcases r1.shape with rfl|⟨i,y,rfl⟩<;>rfl
 have o2:u2.oneCell'=true:=by rcases r2.shape with rfl|⟨i,y,rfl⟩<;>rfl
 have o3:u.oneCell'=true:=by rcases r3.shape with rfl|⟨i,y,rfl⟩<;>rfl
 obtain⟨pa,pc,rfl⟩:=Zb po.1;refine⟨_,pa,pc,rfl,rfl,?_,po.1,po.2,fun W b hb W' f=> ?_⟩
 ·exact Array.all_eq_true_iff_forall_mem.2 (by intro v hv;simp only[List.mem_toArray,List.mem_cons,List.not_mem_nil,or_false]at hv;rcases hv with h|h|h|h|h|h|h|h|h|h|h|h|h|h|h|h|h|h|h|h<;>(subst h;first|rfl|assumption))
 ·have h':=f.heap hb (fun x=>x);exact⟨cell_at h' rfl,cell_at h' rfl,cell_at h' rfl,cell_at h' rfl,cell_at h' rfl,cell_at h' rfl,cell_at h' rfl,cell_at h' rfl,cell_at h' rfl⟩
theorem ZbY(w:World)(cs:Array Value):((w.alloc (.cells zC 35)).setRow w.heap.size cs).heap[w.heap.size]? =some (.cells cs 35 (0,0))∧Fr nob w ((w.alloc (.cells zC 35)).setRow w.heap.size cs):=
 ⟨setRow_heap _ _ _ _ _ _ (newAt _ _),((Fr.refl nob w).alloc _).trans (ZN _ _ _) (fun i hi e=>by have e:i=w.heap.size:=e;omega)⟩
theorem Znx:∃n,Zeg false [115,47,97,47,60,38,62,47,50,112] 0=.inr (⟨0,GV.zero,115,[],⟨[97],n,[(-1,[60]),(0,[]),(-1,[62])],2,false,true,[]⟩,[]⟩,⟨10,[],0⟩):=⟨_,rfl⟩
attribute [-go_sem] storeVar
theorem Zaz(w:World)(hE:Env w):Calls Tryz.prog 13 #[] w fun e w'=>e=.returned (.bool true)∧Fr nob w w':=by
 obtain⟨n,hn⟩:=Znx;have hp:=ZaR nob [115,47,97,47,60,38,62,47,50,112] 0 ⟨⟩ w (by decide) (by decide) hE (fun _ h=>h.elim);rw[hn]at hp;have HP:=hid hp;clear hp hn hE;go_enter Tryz.func13,Tryz.ntmps13
 go_wp2_with fail
 refine HP.out.mono ?_;rintro e w2 ⟨f2,v,mv,rfl,hv,hm,_⟩;obtain⟨cs,pa,pc,rfl,hsz,hone,hpo,_,hrow⟩:=hv.opened;obtain⟨ma,mc,rfl⟩:=Zb hm;obtain⟨hb,f3⟩:=ZbY w2 cs;obtain⟨w3,hw3⟩:∃w3,w3=(w2.alloc (.cells zC 35)).setRow w2.heap.size cs:=⟨_,rfl⟩;rw[←hw3]at hb f3;have rc:=hrow w3 _ hb w3 (Fr.refl _ _);obtain⟨q1,_,e1,_,q2,q3⟩:=hpo.get (k:=0) (Nat.zero_lt_succ _);injection e1 with e1;subst e1;have q4:=f3.cell q3 (fun x=>x);simp only at rc q4;have HW3:=hid hw3;have F3:=hid (f2.trans' f3);have HI:=hid (show(Tryz.prog.info? 35).map (·.size)=some cs.size by rw[hsz];exact info_C);have HZ:=hid (show zC.size=cs.size by rw[hsz];rfl);have HO:=hid hone;clear hv hm hw3 f2 f3 hb hrow hpo q2 q3 hsz hone
 go_wp2_with(first|refine wpList_store_row rfl 35 _ _ rfl w2.heap.size cs rfl rfl 35 _ (newAt _ _) HI.out HZ.out HO.out ?_|rw[←HW3.out])
 go_ret;exact⟨rfl,F3.out⟩
end Go.Proofs.YtkfddjopbocpkaaGreatDoor
