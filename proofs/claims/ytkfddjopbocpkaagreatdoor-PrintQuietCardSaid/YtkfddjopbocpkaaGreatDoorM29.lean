/- Lemmas of this claim. -/
import Derived.Test.YtkfddjopbocpkaaGreatDoorM28
set_option linter.unusedVariables false
set_option linter.unusedSimpArgs false
set_option maxRecDepth 100000
set_option maxHeartbeats 4000000
namespace Go.Proofs.YtkfddjopbocpkaaGreatDoor
open Go.Lib (hid)
open Go.RowKit
attribute [-go_sem] storeVar loadVar
theorem Zur(c:CV)(v:Value)(w:World)(hE:Env w)(hP:P10 w)(hT:Zwa w)(hg:CvOk c)(hv:Zc2 nob w c v):
 Calls Tryz.prog 26 #[v] w fun e w'=>e=.returned (.string ⟨(ZuJ c).toArray⟩)∧Fr nob w w':=by
 have f:=hv;obtain⟨R,rfl,hr,j⟩:∃R:Array Value,v=.agg R∧R.size=20∧R.all (·.oneCell')=true:=by
  obtain⟨u1,u2,u,pv,rfl,n1,n2,n3,np⟩:=hv;have o1:u1.oneCell'=true:=by rcases n1.shape with rfl|⟨i,y,rfl⟩<;>rfl
  have o2:u2.oneCell'=true:=by rcases n2.shape with rfl|⟨i,y,rfl⟩<;>rfl
  have o3:u.oneCell'=true:=by rcases n3.shape with rfl|⟨i,y,rfl⟩<;>rfl
  have o4:pv.oneCell'=true:=by obtain⟨a9,c9,rfl⟩:=Zb np.1;rfl
  exact⟨_,rfl,rfl,Zsv (g:=c.guard) o1 o2 o3 o4⟩
 obtain⟨w1,a⟩:∃w1,w1=w.alloc (.cells R 35):=⟨_,rfl⟩;have h:w1.heap[w.heap.size]? =some (.cells R 35 (0,0)):=by rw[a];exact newAt _ _
 have f1:Fr nob w w1:=by rw[a];exact(Fr.refl _ _).alloc _
 have d:w1.heap.size=w.heap.size+1:=by rw[a];simp
 obtain⟨w2,b⟩:∃w2,w2=w1.alloc (.cells #[.pointer none,.slice none 0 0] 107):=⟨_,rfl⟩;have f2:Fr nob w1 w2:=by rw[b];exact(Fr.refl _ _).alloc _
 have hb:=f2.heap h (fun x=>x);have hB:PxB w1.heap.size [] none w2:=by rw[b];exact PxB.new w1
 have hX:PxW w (fun _=>False) w1.heap.size [] w2:=⟨f1.trans' f2,none,hB,fun k x=>by rcases x with x|x;exact⟨by have:=f1.size;omega,by simp,Nat.lt_of_lt_of_le x (f1.trans' f2).size⟩;exact x.elim⟩;rw[d]at hX;have HN:=hid (Ztt _ _ hE hP hT hg f hX (by simp));rw[List.nil_append]at HN;obtain⟨C,hC⟩:∃C,ZuJ c=C:=⟨_,rfl⟩;rw[hC]at HN⊢;have HI:=hid (show(Tryz.prog.info? 35).map (·.size)=some R.size by rw[hr];exact info_C);have m:=hid a;have p:=hid b;have n:=hid d;have HB:=hid hb;clear a b d f1 f2 hb h hB hX hC hE hP hT hg f hr j hv;go_enter Tryz.func26,Tryz.ntmps26;go_wp2_with(first|rw[←m.out]|rw[n.out]|rw[←p.out]|refine wpList_load_row rfl 35 _ rfl w.heap.size rfl 35 R (0,0) _ HB.out Tryz.underlying35 rfl HI.out ?_);refine HN.out.mono ?_;rintro e w3 ⟨rfl,h3,f3⟩;have H3:=hid h3;clear h3 f3;obtain⟨gg,⟨cs,hb,l⟩,hk⟩:=H3.out.tx;have o:=hid (Zev _ (w.heap.size+1) 0 cs C gg w3 hb)
 have HG:=hid (show∀i,i<w.heap.size→some i≠gg from fun i hi=>(hk i (.inl hi)).2.1);clear hb l hk;go_wp2_with fail;refine o.out.mono ?_;rintro e w4 ⟨rfl,f4⟩;have F4:=hid (H3.out.fr.trans f4 (fun i hi x=>(HG.out i hi x).elim));clear f4;go_wp2;go_ret;exact⟨rfl,F4.out⟩
end Go.Proofs.YtkfddjopbocpkaaGreatDoor
