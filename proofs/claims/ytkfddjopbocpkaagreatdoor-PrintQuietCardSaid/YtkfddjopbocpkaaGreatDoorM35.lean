/- Lemmas of this claim. -/
import Derived.Test.YtkfddjopbocpkaaGreatDoorM33
import Derived.Test.YtkfddjopbocpkaaGreatDoorM34
set_option linter.unusedVariables false
set_option linter.unusedSimpArgs false
set_option maxRecDepth 100000
set_option maxHeartbeats 4000000
namespace Go.Proofs.YtkfddjopbocpkaaGreatDoor
open Go.Lib (hid)
open Go.RowKit
theorem Zta{x:Bool}{l:List UInt8}{a:ScV}{ms:List (Nat×List UInt8)}(h:ZdO x l=.inr (a,ms))(q:Bool)(cv:Value)(w:World)(hE:Env w)(hP:P10 w)(hv:Zdw nob w a.cmds cv):
 Calls Tryz.prog 27 #[.agg #[.bool q,cv]] w fun e w'=>e=.returned (.string ⟨(Zu8 q a.cmds).toArray⟩)∧Fr nob w w':=by
 obtain⟨b1,b2,b3⟩:=scrS_b h;refine ZuM q a.cmds cv w hE hP (Zwg w) (fun c hc=>(b1 c hc).ok b3) (by omega) (fun k=> ?_) hv;have h1:=ZtV b3 (cs:=a.cmds.take k) (fun c hc=>b1 c (List.mem_of_mem_take hc));have h2:(a.cmds.take k).length≤100:=by rw[List.length_take];omega
 omega
theorem ZvG{x:Bool}{l:List UInt8}{a:ScV}{ms:List (Nat×List UInt8)}(h:ZdO x l=.inr (a,ms))(k:Nat)(q:Bool):(Zu8 q (a.cmds.take k)).length≤500000003:=by
 obtain⟨b1,b2,b3⟩:=scrS_b h;have h1:=ZtV b3 (cs:=a.cmds.take k) (fun c hc=>b1 c (List.mem_of_mem_take hc));have h2:(a.cmds.take k).length≤100:=by rw[List.length_take];omega
 unfold Zu8;split<;>simp only[List.length_append,List.length_cons,List.length_nil]<;>omega
theorem ZtC{x:Bool}{l:List UInt8}{a:ScV}{ms:List (Nat×List UInt8)}(h:ZdO x l=.inr (a,ms))(c:CV)(hc:c∈a.cmds)(v:Value)(w:World)(hE:Env w)(hP:P10 w)(hv:Zc2 nob w c v):
 Calls Tryz.prog 26 #[v] w fun e w'=>e=.returned (.string ⟨(ZuJ c).toArray⟩)∧Fr nob w w':=by
 obtain⟨b1,b2,b3⟩:=scrS_b h;exact Zur c v w hE hP (Zwg w) ((b1 c hc).ok b3) hv
def Zwl(R:ZqB):Option (List UInt8):=match R with
 | .inl _=>none
 | .inr (a,_)=>some (Zu8 a.quiet a.cmds)
theorem Zv5:Zwl (ZdO false [115,44,97,92,124,98,44,91,38,93,44,103])=some [115,47,97,124,98,47,91,38,93,47,103,10]:=by decide +kernel
theorem ZsY(w:World)(hE:Env w)(hP:P10 w):Calls Tryz.prog 21 #[] w fun e w'=>e=.returned (.bool true)∧Fr nob w w':=by
 have h1:=ZbE [115,44,97,92,124,98,44,91,38,93,44,103] false w (by decide) hE;cases hS:ZdO false [115,44,97,92,124,98,44,91,38,93,44,103]with
 |inl z=>exact absurd Zv5 (by rw[hS];intro h;cases h)
 |inr z=>
 obtain⟨a,ms⟩:=z;have hT:Zu8 a.quiet a.cmds=[115,47,97,124,98,47,91,38,93,47,103,10]:=by
  have h:=Zv5;rw[hS]at h;exact Option.some.inj h
 rw[hS]at h1;have hp:=fun(cv:Value) (w':World) (f:Fr nob w w') (hv:Zdw nob w' a.cmds cv)=>Zta hS a.quiet cv w' (hE.on f) (hP.on f) hv;rw[hT]at hp;have HP:=hid hp;have H1:=hid h1;obtain⟨aq,ac⟩:=a;simp only at HP H1;clear h1 hE hP hS hT hp;go_enter Tryz.func21,Tryz.ntmps21;go_wp2_with fail;refine H1.out.mono ?_;rintro e w4 ⟨f4,cv,mv,rfl,b,g⟩;simp only at b;obtain⟨va,vc,rfl⟩:=b.shape;obtain⟨ma,mc,rfl⟩:=Zb g;obtain⟨c,f5,_⟩:=ZaM w4 zS2 #[.bool aq,.slice va ac.length vc] 50;obtain⟨w5,d⟩:∃w5,w5=(w4.alloc (.cells zS2 50)).setRow w4.heap.size #[.bool aq,.slice va ac.length vc]:=⟨_,rfl⟩;rw[←d]at f5 c;have HL:=hid (HP.out _ w5 (f4.trans' f5) (b.on f5));have k:=Zay (cell_at (j:=0) c rfl);have l:=Zay (cell_at (j:=1) c rfl);have i:=hid d;have F5:=hid (f4.trans' f5);clear d f4 f5 c b g;go_wp2_with(first|refine wpList_store_row rfl 50 _ _ rfl w4.heap.size #[.bool aq,.slice va ac.length vc] rfl rfl 50 _ (newAt _ _) (info_S2 _ _) rfl (ZiR _ _ _ _) ?_|rw[←i.out])
 refine HL.out.mono ?_;rintro e w6 ⟨rfl,f6⟩;go_wp2;go_ret;exact⟨rfl,F5.out.trans' f6⟩
end Go.Proofs.YtkfddjopbocpkaaGreatDoor
