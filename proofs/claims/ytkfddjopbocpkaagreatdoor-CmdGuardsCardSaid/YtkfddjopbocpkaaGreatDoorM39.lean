/-
  Merged texts of this claim: CmdGuaW.
-/
import Derived.Test.YtkfddjopbocpkaaGreatDoorCards
import Derived.Test.YtkfddjopbocpkaaGreatDoorTie
import Derived.Deep.MidRow
import Derived.Test.YtkfddjopbocpkaaGreatDoorM26
import Derived.Test.YtkfddjopbocpkaaGreatDoorM34
import Derived.Test.YtkfddjopbocpkaaGreatDoorM36
import Derived.Test.YtkfddjopbocpkaaGreatDoorM37
import Derived.Test.YtkfddjopbocpkaaGreatDoorM38
set_option linter.unusedVariables false
set_option linter.unusedSimpArgs false
set_option maxRecDepth 100000
set_option maxHeartbeats 4000000
namespace Go.Proofs.YtkfddjopbocpkaaGreatDoor
open Go.Lib (hid)
open Go.RowKit
attribute [-go_sem] storeVar
theorem ZkB{x:Bool}{l:List UInt8}{p:Nat}{z:Int×Nat}(h:Zeg x l p=.inl z):z.1≠0:=by
 unfold Zeg at h;cases hg:ZU x l ⟨p,[],0⟩with
 |inl y=>rw[hg]at h;injection h with h;subst h;exact guardD_err hg
 |inr y=>
  obtain⟨g,s⟩:=y;rw[hg]at h;simp only at h;split at h
  ·next h0=>injection h with h;subst h;exact h0
  ·cases h
theorem setG_heap{w:World}{b:Nat}{v0 v1 v2 v3 v4 v5 v6 v7 v8 v9 v10 v11 v12 v13 v14 v15 v16 v17 v18 v19 g0 g1 g2 g3 g4 g5 g6 g7 g8:Value}{T:TypeId}(h:w.heap[b]? =some (.cells #[v0,v1,v2,v3,v4,v5,v6,v7,v8,v9,v10,v11,v12,v13,v14,v15,v16,v17,v18,v19] T (0,0))):
 (w.setCells b 1 [g0,g1,g2,g3,g4,g5,g6,g7,g8]).heap[b]? =some (.cells #[v0,g0,g1,g2,g3,g4,g5,g6,g7,g8,v10,v11,v12,v13,v14,v15,v16,v17,v18,v19] T (0,0)):=by
 have h0:=Za h 1 g0;have h1:=Za h0 2 g1;have h2:=Za h1 3 g2;have h3:=Za h2 4 g3;have h4:=Za h3 5 g4;have h5:=Za h4 6 g5;have h6:=Za h5 7 g6;have h7:=Za h6 8 g7;have h8:=Za h7 9 g8;simpa[World.setCells]using h8
theorem Zdk(b:Nat):∀(vs:List Value) (o:Nat) (w:World),Fr (fun k=>k=b) w (w.setCells b o vs)
 |[],_,w=>Fr.refl _ w
 |v::r,o,w=>((Fr.refl (fun k=>k=b) w).setCell (p:=⟨b,o,none⟩) (fun _=>rfl) v).trans (Zdk b r (o+1) _) (fun _ _ e=>e)
theorem lin0(w:World):(Instr.index 45 (.agg #[.string ⟨#[49]⟩,.string ⟨#[55]⟩,.string ⟨#[36]⟩,.string ⟨#[49,50]⟩]) (.int .u8 0)).run Tryz.prog w=.ok (.string ⟨#[49]⟩) w:=by kernel_rfl
theorem lin1(w:World):(Instr.index 45 (.agg #[.string ⟨#[49]⟩,.string ⟨#[55]⟩,.string ⟨#[36]⟩,.string ⟨#[49,50]⟩]) (.int .u8 1)).run Tryz.prog w=.ok (.string ⟨#[55]⟩) w:=by kernel_rfl
theorem lin2(w:World):(Instr.index 45 (.agg #[.string ⟨#[49]⟩,.string ⟨#[55]⟩,.string ⟨#[36]⟩,.string ⟨#[49,50]⟩]) (.int .u8 2)).run Tryz.prog w=.ok (.string ⟨#[36]⟩) w:=by kernel_rfl
theorem ZnD(w:World):(Instr.index 45 (.agg #[.string ⟨#[49]⟩,.string ⟨#[55]⟩,.string ⟨#[36]⟩,.string ⟨#[49,50]⟩]) (.int .u8 3)).run Tryz.prog w=.ok (.string ⟨#[49,50]⟩) w:=by kernel_rfl
theorem ZlR(s:List UInt8)(n:Nat)(w:World)(hE:Env w)(hl:s.length≤9223372036854775807)(h1:200<s.length):
 Calls Tryz.prog 5 #[.string ⟨s.toArray⟩,.int .u8 (n:Int)] w fun e w'=>e=.returned (.bool true)∧Fr nob w w':=by
 have HA:=hid (Zaz w hE);have HE:=hid hE;clear hE;have h2:(200:Int)<s.length:=by omega
 go_enter Tryz.func5,Tryz.ntmps5
 go_wp2_with fail
 refine HA.out.mono ?_;rintro e w1 ⟨rfl,f1⟩;have F1:=hid f1;clear f1;have HA2:=hid (Zaz w1 (HE.out.on F1.out))
 go_wp2_with fail
 refine HA2.out.mono ?_;rintro e w2 ⟨rfl,f2⟩;have F2:=hid (F1.out.trans' f2);clear f2;go_wp2;go_ret;exact⟨rfl,F2.out⟩
theorem ZlS(s:List UInt8)(n:Nat)(w:World)(hE:Env w)(h1:s.length≤200)(z:Int)(q:Nat)(hC:Zeg false s 0=.inl (z,q)):
 Calls Tryz.prog 5 #[.string ⟨s.toArray⟩,.int .u8 (n:Int)] w fun e w'=>e=.returned (.bool true)∧Fr nob w w':=by
 have hz0:¬z=0:=ZkB hC;have hz1:(z==0)=false:=by simpa using hz0
 have hz2:(z !=0)=true:=by simpa using hz0
 have HA:=hid (Zaz w hE);have hp0:=fun(w':World) (g:Fr nob w w')=>ZaR nob s 0 ⟨⟩ w' (by omega) (Nat.zero_le _) (hE.on g) (fun _ h=>h.elim);rw[hC]at hp0;have HP:=hid hp0;clear hE hp0 hC;go_enter Tryz.func5,Tryz.ntmps5
 go_wp2_with fail
 refine HA.out.mono ?_;rintro e w1 ⟨rfl,f1⟩;have F1:=hid f1;clear f1
 go_wp2_with fail
 refine(HP.out _ F1.out).mono ?_;rintro e w4 ⟨f4,rfl⟩;obtain⟨hbX,fX⟩:=ZbY w4 zC;obtain⟨w5,hwX⟩:∃w5,w5=(w4.alloc (.cells zC 35)).setRow w4.heap.size zC:=⟨_,rfl⟩;rw[←hwX]at hbX fX;have HW5:=hid hwX;have F5:=hid (F1.out.trans' (f4.trans' fX));have B5:=hid hbX;clear hwX f4 fX hbX
 go_wp2_with(first|refine wpList_store_row rfl 35 _ _ rfl w4.heap.size zC rfl rfl 35 _ (newAt _ _) info_C rfl (by kernel_rfl) ?_|rw[←HW5.out])
 go_ret;exact⟨rfl,F5.out⟩
theorem ZlT(s:List UInt8)(n:Nat)(w:World)(hE:Env w)(h1:s.length≤200)(c:CV)(q:AdS)(hC:Zeg false s 0=.inr (c,q))(ha:¬c.at_=0):
 Calls Tryz.prog 5 #[.string ⟨s.toArray⟩,.int .u8 (n:Int)] w fun e w'=>e=.returned (.bool true)∧Fr nob w w':=by
 have ha1:((c.at_:Int)==0)=false:=by simp;omega
 have ha2:((c.at_:Int) !=0)=true:=by simp;omega
 have HA:=hid (Zaz w hE);have hp0:=fun(w':World) (g:Fr nob w w')=>ZaR nob s 0 ⟨⟩ w' (by omega) (Nat.zero_le _) (hE.on g) (fun _ h=>h.elim);rw[hC]at hp0;have HP:=hid hp0;clear hE hp0 hC;go_enter Tryz.func5,Tryz.ntmps5
 go_wp2_with fail
 refine HA.out.mono ?_;rintro e w1 ⟨rfl,f1⟩;have F1:=hid f1;clear f1
 go_wp2_with fail
 refine(HP.out _ F1.out).mono ?_;rintro e w4 ⟨f4,v,mv,rfl,hv,hm,_⟩;obtain⟨cs,pa,pc,rfl,hsz,hone,hpo,_,hrow⟩:=hv.opened;obtain⟨ma,mc,rfl⟩:=Zb hm;have HI:=hid (show(Tryz.prog.info? 35).map (·.size)=some cs.size by rw[hsz];exact info_C);have HZ:=hid (show zC.size=cs.size by rw[hsz];rfl);have HO:=hid hone;have HR:=hid hrow;clear hv hm hpo hsz hone hrow;obtain⟨hbX,fX⟩:=ZbY w4 cs;obtain⟨w5,hwX⟩:∃w5,w5=(w4.alloc (.cells zC 35)).setRow w4.heap.size cs:=⟨_,rfl⟩;rw[←hwX]at hbX fX;have HW5:=hid hwX;have F5:=hid (F1.out.trans' (f4.trans' fX));have B5:=hid hbX;clear hwX f4 fX hbX;have rc:=HR.out w5 _ B5.out _ (Fr.refl _ _)
 go_wp2_with(first|refine wpList_store_row rfl 35 _ _ rfl w4.heap.size cs rfl rfl 35 _ (newAt _ _) HI.out HZ.out HO.out ?_|rw[←HW5.out])
 go_ret;exact⟨rfl,F5.out⟩
theorem Zed.guarded{w w':World}{c d:CV}{v v':Value}(hc:Zed nob w c v)(hd:Zed nob w' d v'):∃(cs ds gs es:Array Value),v=.agg cs∧v'=.agg ds∧cs.size=20∧ds.size=20∧gs.size=9∧es.size=20∧
 cs.all (·.oneCell')=true∧ds.all (·.oneCell')=true∧gs.all (·.oneCell')=true∧
 (∀W b,W.heap[b]? =some (.cells cs 35 (0,0))→W.rangeAt b 1 gs.toList∧∀W',Fr nob W W'→W'.cell? ⟨b,0,none⟩=some (.int .i64 c.at_)∧W'.cell? ⟨b,10,none⟩=some (.int .u8 (c.name.toNat:Int)))∧
 (∀W b,W.heap[b]? =some (.cells ds 35 (0,0))→W.there b 1 9∧(W.setCells b 1 gs.toList).heap[b]? =some (.cells es 35 (0,0))∧∀W',Fr nob W W'→W'.cell? ⟨b,0,none⟩=some (.int .i64 d.at_)∧W'.cell? ⟨b,10,none⟩=some (.int .u8 (d.name.toNat:Int)))∧
 (∀W,Fr nob w W→Fr nob w' W→Zed nob W {d with guard:=c.guard} (.agg es)):=by
 obtain⟨u1,u2,u3,pu,rfl,r1,r2,r3,po⟩:=hc;obtain⟨v1,v2,v3,pv,rfl,s1,s2,s3,po2⟩:=hd;have ou1:u1.oneCell'=true:=by rcases r1.shape with rfl|⟨i,y,rfl⟩<;>rfl
 have ou2:u2.oneCell'=true:=by rcases r2.shape with rfl|⟨i,y,rfl⟩<;>rfl
 have ou3:u3.oneCell'=true:=by rcases r3.shape with rfl|⟨i,y,rfl⟩<;>rfl
 have ov1:v1.oneCell'=true:=by rcases s1.shape with rfl|⟨i,y,rfl⟩<;>rfl
 have ov2:v2.oneCell'=true:=by rcases s2.shape with rfl|⟨i,y,rfl⟩<;>rfl
 have ov3:v3.oneCell'=true:=by rcases s3.shape with rfl|⟨i,y,rfl⟩<;>rfl
 have opu:pu.oneCell'=true:=by obtain⟨a9,c9,rfl⟩:=Zb po.1;rfl
 have opv:pv.oneCell'=true:=by obtain⟨a9,c9,rfl⟩:=Zb po2.1;rfl
 refine⟨_,_,#[.int .i64 c.guard.a.kind,.int .i64 c.guard.a.line,.string ⟨c.guard.a.text.toArray⟩,u1,.int .i64 c.guard.b.kind,.int .i64 c.guard.b.line,.string ⟨c.guard.b.text.toArray⟩,u2,.bool c.guard.no],(cmd20 d.at_ (.int .i64 c.guard.a.kind) (.int .i64 c.guard.a.line) (.string ⟨c.guard.a.text.toArray⟩) u1 (.int .i64 c.guard.b.kind) (.int .i64 c.guard.b.line) (.string ⟨c.guard.b.text.toArray⟩) u2 (.bool c.guard.no) d.name d.arg d.sub v3 pv d.table),rfl,rfl,rfl,rfl,rfl,rfl,(Array.all_eq_true_iff_forall_mem.2 (by intro v hv;simp only[List.mem_toArray,List.mem_cons,List.not_mem_nil,or_false]at hv;rcases hv with h|h|h|h|h|h|h|h|h|h|h|h|h|h|h|h|h|h|h|h<;>(subst h;first|rfl|assumption))),(Array.all_eq_true_iff_forall_mem.2 (by intro v hv;simp only[List.mem_toArray,List.mem_cons,List.not_mem_nil,or_false]at hv;rcases hv with h|h|h|h|h|h|h|h|h|h|h|h|h|h|h|h|h|h|h|h<;>(subst h;first|rfl|assumption))),(Array.all_eq_true_iff_forall_mem.2 (by intro v hv;simp only[List.mem_toArray,List.mem_cons,List.not_mem_nil,or_false]at hv;rcases hv with h|h|h|h|h|h|h|h|h<;>(subst h;first|rfl|assumption))),fun W b hb=>⟨fun j x hx=> ?_,fun W' f=> ?_⟩,fun W b hb=>⟨fun j hj=>⟨?_,unfrozen_at hb _⟩,setG_heap hb,fun W' f=> ?_⟩,fun W f g=>⟨u1,u2,v3,pv,rfl,r1.on f,r2.on f,s3.on g,po2.on g⟩⟩
 ·refine cell_at hb ?_
  match j,hx with
  |0,hx=>simpa using hx
  |1,hx=>simpa using hx
  |2,hx=>simpa using hx
  |3,hx=>simpa using hx
  |4,hx=>simpa using hx
  |5,hx=>simpa using hx
  |6,hx=>simpa using hx
  |7,hx=>simpa using hx
  |8,hx=>simpa using hx
  |j+9,hx=>simp at hx
 ·have h':=f.heap hb (fun x=>x);exact⟨cell_at h' rfl,cell_at h' rfl⟩
 ·match j,hj with
  |0,_=>rw[cell_at (j:=1+0) hb rfl];rfl
  |1,_=>rw[cell_at (j:=1+1) hb rfl];rfl
  |2,_=>rw[cell_at (j:=1+2) hb rfl];rfl
  |3,_=>rw[cell_at (j:=1+3) hb rfl];rfl
  |4,_=>rw[cell_at (j:=1+4) hb rfl];rfl
  |5,_=>rw[cell_at (j:=1+5) hb rfl];rfl
  |6,_=>rw[cell_at (j:=1+6) hb rfl];rfl
  |7,_=>rw[cell_at (j:=1+7) hb rfl];rfl
  |8,_=>rw[cell_at (j:=1+8) hb rfl];rfl
 ·have h':=f.heap hb (fun x=>x);exact⟨cell_at h' rfl,cell_at h' rfl⟩
theorem gua_no(s:List UInt8)(n:Nat)(w:World)(hE:Env w)(h1:s.length≤200)(c:CV)(q:AdS)(hC:Zeg false s 0=.inr (c,q))(ha:c.at_=0)(line:List UInt8)(kk:Nat)(hline:line=[49]∨line=[55]∨line=[36]∨line=[49,50])(hk:n%4=kk)(hix:∀W:World,(Instr.index 45 (.agg #[.string ⟨#[49]⟩,.string ⟨#[55]⟩,.string ⟨#[36]⟩,.string ⟨#[49,50]⟩]) (.int .u8 (kk:Int))).run Tryz.prog W=.ok (.string ⟨line.toArray⟩) W)(nm:UInt8)(hn:nm=58∨nm=125)(hm:c.name=nm):
 Calls Tryz.prog 5 #[.string ⟨s.toArray⟩,.int .u8 (n:Int)] w fun e w'=>e=.returned (.bool true)∧Fr nob w w':=by
 have hll:line.length≤2:=by rcases hline with rfl|rfl|rfl|rfl<;>decide
 have hgu:=ZdG (l:=s) (line:=line) hline hC ha;have hr:(n:Int).tmod 4=(kk:Int):=by rw[Int.tmod_eq_emod_of_nonneg (by omega)];omega
 have hr':(n:Int)%4=(kk:Int):=by omega
 have hkk:kk<4:=by omega
 have HA:=hid (Zaz w hE);have hp0:=fun(w':World) (g:Fr nob w w')=>ZaR nob s 0 ⟨⟩ w' (by omega) (Nat.zero_le _) (hE.on g) (fun _ h=>h.elim);rw[hC]at hp0;have hp1:=fun(w':World) (g:Fr nob w w')=>ZaR nob (line++s) 0 ⟨⟩ w' (by rw[List.length_append];omega) (Nat.zero_le _) (hE.on g) (fun _ h=>h.elim);rw[hgu.1 (by rw[hm];exact hn)]at hp1;have HP:=hid hp0;have HP1:=hid hp1;clear hE hp0 hp1 hC hgu hk hline;rcases hn with rfl|rfl
 all_goals
  go_enter Tryz.func5,Tryz.ntmps5
  go_wp2_with fail
  refine HA.out.mono ?_;rintro e w1 ⟨rfl,f1⟩;have F1:=hid f1;clear f1
  go_wp2_with fail
  refine(HP.out _ F1.out).mono ?_;rintro e w4 ⟨f4,v,mv,rfl,hv,hmv,_⟩;obtain⟨cs,pa,pc,rfl,hsz,hone,hpo,_,hrow⟩:=hv.opened;obtain⟨ma,mc,rfl⟩:=Zb hmv;have HI:=hid (show(Tryz.prog.info? 35).map (·.size)=some cs.size by rw[hsz];exact info_C);have HZ:=hid (show zC.size=cs.size by rw[hsz];rfl);have HO:=hid hone;have HR:=hid hrow;clear hv hmv hpo hsz hone hrow;obtain⟨hbX,fX⟩:=ZbY w4 cs;obtain⟨w5,hwX⟩:∃w5,w5=(w4.alloc (.cells zC 35)).setRow w4.heap.size cs:=⟨_,rfl⟩;rw[←hwX]at hbX fX;have HW5:=hid hwX;have F5:=hid (F1.out.trans' (f4.trans' fX));have B5:=hid hbX;clear hwX f4 fX hbX;have rc:=HR.out w5 _ B5.out;simp only[ha,hm]at rc
  go_wp2_with(first|refine wpList_store_row rfl 35 _ _ rfl w4.heap.size cs rfl rfl 35 _ (newAt _ _) HI.out HZ.out HO.out ?_|rw[←HW5.out])
  refine(HP1.out _ F5.out).mono ?_;rintro e w6 ⟨f6,rfl⟩;have f6g:=f6;obtain⟨hbX,fX⟩:=ZbY w6 zC;obtain⟨w7,hwX⟩:∃w5,w5=(w6.alloc (.cells zC 35)).setRow w6.heap.size zC:=⟨_,rfl⟩;rw[←hwX]at hbX fX;have g57:=f6.trans' fX;have HW7:=hid hwX;have F7:=hid (F5.out.trans' (f6g.trans' fX));have B7:=hid hbX;clear hwX f6g fX hbX
  go_wp2_with(first|refine wpList_store_row rfl 35 _ _ rfl w6.heap.size zC rfl rfl 35 _ (newAt _ _) info_C rfl (by kernel_rfl) ?_|rw[←HW7.out])
  go_ret;exact⟨rfl,F7.out⟩
theorem gua_yes(s:List UInt8)(n:Nat)(w:World)(hE:Env w)(h1:s.length≤200)(c:CV)(q:AdS)(hC:Zeg false s 0=.inr (c,q))(ha:c.at_=0)(line:List UInt8)(kk:Nat)(hline:line=[49]∨line=[55]∨line=[36]∨line=[49,50])(hk:n%4=kk)(hix:∀W:World,(Instr.index 45 (.agg #[.string ⟨#[49]⟩,.string ⟨#[55]⟩,.string ⟨#[36]⟩,.string ⟨#[49,50]⟩]) (.int .u8 (kk:Int))).run Tryz.prog W=.ok (.string ⟨line.toArray⟩) W)(hn:¬(c.name=58∨c.name=125)):
 Calls Tryz.prog 5 #[.string ⟨s.toArray⟩,.int .u8 (n:Int)] w fun e w'=>e=.returned (.bool true)∧Fr nob w w':=by
 have hll:line.length≤2:=by rcases hline with rfl|rfl|rfl|rfl<;>decide
 have hgu:=ZdG (l:=s) (line:=line) hline hC ha;have hr:(n:Int).tmod 4=(kk:Int):=by rw[Int.tmod_eq_emod_of_nonneg (by omega)];omega
 have hr':(n:Int)%4=(kk:Int):=by omega
 have hkk:kk<4:=by omega
 have HA:=hid (Zaz w hE);have hp0:=fun(w':World) (g:Fr nob w w')=>ZaR nob s 0 ⟨⟩ w' (by omega) (Nat.zero_le _) (hE.on g) (fun _ h=>h.elim);rw[hC]at hp0;have hp1:=fun(w':World) (g:Fr nob w w')=>ZaR nob (line++s) 0 ⟨⟩ w' (by rw[List.length_append];omega) (Nat.zero_le _) (hE.on g) (fun _ h=>h.elim);obtain⟨gd,sd,hgd⟩:=hgu.2.1 hn;rw[hgd]at hp1;obtain⟨d,hdd⟩:∃d,({shC line.length c with guard:=gd}:CV)=d:=⟨_,rfl⟩;have dd1:d.at_=line.length:=by rw[←hdd];show line.length+c.at_=line.length;omega
 have dd2:d.name=c.name:=by rw[←hdd];rfl
 have dd3:d.arg=c.arg:=by rw[←hdd];rfl
 have dd4:d.sub=c.sub:=by rw[←hdd];rfl
 have dd5:d.table=c.table:=by rw[←hdd];rfl
 rw[hdd]at hp1 hgd;clear hdd;have HF1:=hid (Zg7 (by omega) hC);have HF2:=hid (Zg7 (by rw[List.length_append];omega) hgd);have HP:=hid hp0;have HP1:=hid hp1;have hn58:((c.name.toNat:Int)==58)=false:=ZG (b:=58) (fun e=>hn (.inl e));have hn125:((c.name.toNat:Int)==125)=false:=ZG (b:=125) (fun e=>hn (.inr e));have ha1:((c.at_:Int)==0)=true:=by rw[ha];rfl
 have ha2:((c.at_:Int) !=0)=false:=by rw[ha];rfl
 have hd1:((d.at_:Int)==(line.length:Int))=true:=by rw[dd1];simp
 have hd2:((d.at_:Int) !=(line.length:Int))=false:=by rw[dd1];simp
 have hd3:((d.name.toNat:Int)==(c.name.toNat:Int))=true:=Zfm dd2;have hd4:((d.name.toNat:Int) !=(c.name.toNat:Int))=false:=tn_eq dd2;have D2:=hid dd2;have D3:=hid dd3;have D4:=hid dd4;have D5:=hid dd5;clear hE hp0 hp1 hC hgu hk hgd hn ha dd1 dd2 dd3 dd4 dd5 hline;go_enter Tryz.func5,Tryz.ntmps5
 go_wp2_with fail
 refine HA.out.mono ?_;rintro e w1 ⟨rfl,f1⟩;have F1:=hid f1;clear f1
 go_wp2_with fail
 refine(HP.out _ F1.out).mono ?_;rintro e w4 ⟨f4,v,mv,rfl,hvc,hmv,_⟩;obtain⟨ma,mc,rfl⟩:=Zb hmv;obtain⟨cs0,pa0,pc0,rfl,hsz,hone,_,_,hrow⟩:=hvc.opened;have HVC:=hid hvc;have HIC:=hid (show(Tryz.prog.info? 35).map (·.size)=some cs0.size by rw[hsz];exact info_C);have HZC:=hid (show zC.size=cs0.size by rw[hsz];rfl);have HOC:=hid hone;have HRC:=hid hrow;clear hvc hmv hsz hone hrow;obtain⟨hbX,fX⟩:=ZbY w4 cs0;obtain⟨w5,hwX⟩:∃w5,w5=(w4.alloc (.cells zC 35)).setRow w4.heap.size cs0:=⟨_,rfl⟩;rw[←hwX]at hbX fX;have F45:=hid (f4.trans' fX);have F45':=hid fX;have HW5:=hid hwX;have F5:=hid (F1.out.trans' (f4.trans' fX));have B5:=hid hbX;clear hwX f4 fX hbX;have rc:=HRC.out w5 _ B5.out
 go_wp2_with(first|refine wpList_store_row rfl 35 _ _ rfl w4.heap.size cs0 rfl rfl 35 _ (newAt _ _) HIC.out HZC.out HOC.out ?_|rw[←HW5.out])
 refine(HP1.out _ F5.out).mono ?_;rintro e w6 ⟨f6,v,mv2,rfl,hvd,hmv2,_⟩;obtain⟨ma2,mc2,rfl⟩:=Zb hmv2;obtain⟨cs,ds,gs,es,ec,rfl,z1,z2,z3,z4,q1,q2,q3,kc,kd,ke⟩:=HVC.out.guarded hvd;obtain⟨gl⟩:=gs;injection ec with ec;subst ec;have HVD:=hid hvd;have HID:=hid (show(Tryz.prog.info? 35).map (·.size)=some ds.size by rw[z2];exact info_C);have HZD:=hid (show zC.size=ds.size by rw[z2];rfl);have HOD:=hid q2;have HGO:=hid q3;have HIE:=hid (show(Tryz.prog.info? 35).map (·.size)=some es.size by rw[z4];exact info_C);have HIG:=hid (show(Tryz.prog.info? 30).map (·.size)=some (Array.mk gl).size by rw[z3];exact info_Gd);have HIG':=hid (show(Tryz.prog.info? 30).map (·.size)=some gl.length by rw[show gl.length=9 from z3];exact info_Gd);have KC:=hid kc;have KD:=hid kd;have KE:=hid ke;have Z3:=hid z3;have F56:=hid f6;clear hvd hmv2 z1 z2 z3 z4 q1 q2 q3 kc kd ke rc;obtain⟨hbX,fX⟩:=ZbY w6 ds;obtain⟨w7,hwX⟩:∃w5,w5=(w6.alloc (.cells zC 35)).setRow w6.heap.size ds:=⟨_,rfl⟩
 rw[←hwX]at hbX fX;have F67:=hid fX;have g57:=f6.trans' fX;have HW7:=hid hwX;have F7:=hid (F5.out.trans' (f6.trans' fX));have B7:=hid hbX;clear hwX f6 fX hbX;have ZC7:=hid (g57.heap B5.out (fun x=>x));have rc:=(KC.out w7 _ ZC7.out).2;have HRG:=hid (KC.out w7 _ ZC7.out).1;obtain⟨hth,hz8,rd⟩:=KD.out w7 _ B7.out;obtain⟨w8,hw8⟩:∃w8,w8=w7.setCells w6.heap.size 1 (Array.mk gl).toList:=⟨_,rfl⟩;rw[←hw8]at hz8;have f78:Fr nob w6 w8:=by rw[hw8];exact F67.out.trans (Zdk w6.heap.size _ 1 w7) (fun i hi e=>by have e:i=w6.heap.size:=e;omega)
 have HW8:=hid hw8;have HTH:=hid (show w7.there w6.heap.size 1 (Array.mk gl).size by rw[Z3.out];exact hth);have Z8:=hid hz8;have ZC8:=hid ((F56.out.trans' f78).heap B5.out (fun x=>x));have F8:=hid (F5.out.trans' (F56.out.trans' f78));have hfd:({d with guard:=c.guard}:CV).few:=⟨HF1.out.1,HF1.out.2.1,HF2.out.2.2.1,HF2.out.2.2.2⟩;have HS:=hid (Zgq c {d with guard:=c.guard} (.agg cs0) (.agg es) w8 HF1.out hfd (HVC.out.on (F45'.out.trans' (F56.out.trans' f78))) (KE.out w8 (F45'.out.trans' (F56.out.trans' f78)) f78) ⟨⟨AV.same_refl _,AV.same_refl _,rfl⟩,D2.out.symm,D3.out.symm,D5.out.symm,by rw[D4.out],by rw[D4.out],by rw[D4.out],by rw[D4.out],by rw[D4.out],by rw[D4.out]⟩ (by show c.sub.tree=d.sub.tree;rw[D4.out]));clear hth hz8 hw8 f78 hfd g57
 go_wp2_with(first|refine wpList_store_row rfl 35 _ _ rfl w6.heap.size ds rfl rfl 35 _ (newAt _ _) HID.out HZD.out HOD.out ?_|rw[←HW7.out]|refine wpList_load_mid rfl 30 _ rfl w4.heap.size 1 rfl gl _ HRG.out Tryz.underlying30 rfl HIG'.out ?_|refine wpList_store_mid rfl 30 _ _ rfl w6.heap.size 1 (Array.mk gl) rfl rfl HTH.out HIG.out HGO.out ?_|rw[←HW8.out]|refine wpList_load_row rfl 35 _ rfl w4.heap.size rfl 35 cs0 (0,0) _ ZC8.out Tryz.underlying35 rfl HIC.out ?_|refine wpList_load_row rfl 35 _ rfl w6.heap.size rfl 35 es (0,0) _ Z8.out Tryz.underlying35 rfl HIE.out ?_)
 refine HS.out.mono ?_;rintro e w9 ⟨rfl,f9⟩;have F9:=hid (F8.out.trans' f9);go_wp2;go_ret;exact⟨rfl,F9.out⟩
theorem Zff(s:List UInt8)(n:Nat)(w:World)(hl:s.length≤9223372036854775807)(_hn:n<256)(hE:Env w):
 Calls Tryz.prog 5 #[.string ⟨s.toArray⟩,.int .u8 (n:Int)] w fun e w'=>e=.returned (.bool true)∧Fr nob w w':=by
 by_cases h1:200<s.length
 ·exact ZlR s n w hE hl h1
 cases hC:Zeg false s 0 with
 |inl z=>
  obtain⟨z,q⟩:=z;exact ZlS s n w hE (by omega) z q hC
 |inr r=>
  obtain⟨c,q⟩:=r;by_cases ha:c.at_=0
  ·have hk:n%4=0∨n%4=1∨n%4=2∨n%4=3:=by omega
   by_cases hn:c.name=58∨c.name=125
   ·rcases hk with hk|hk|hk|hk
    ·exact gua_no s n w hE (by omega) c q hC ha [49] 0 (.inl rfl) hk lin0 c.name hn rfl
    ·exact gua_no s n w hE (by omega) c q hC ha [55] 1 (.inr (.inl rfl)) hk lin1 c.name hn rfl
    ·exact gua_no s n w hE (by omega) c q hC ha [36] 2 (.inr (.inr (.inl rfl))) hk lin2 c.name hn rfl
    ·exact gua_no s n w hE (by omega) c q hC ha [49,50] 3 (.inr (.inr (.inr rfl))) hk ZnD c.name hn rfl
   ·rcases hk with hk|hk|hk|hk
    ·exact gua_yes s n w hE (by omega) c q hC ha [49] 0 (.inl rfl) hk lin0 hn
    ·exact gua_yes s n w hE (by omega) c q hC ha [55] 1 (.inr (.inl rfl)) hk lin1 hn
    ·exact gua_yes s n w hE (by omega) c q hC ha [36] 2 (.inr (.inr (.inl rfl))) hk lin2 hn
    ·exact gua_yes s n w hE (by omega) c q hC ha [49,50] 3 (.inr (.inr (.inr rfl))) hk ZnD hn
  ·exact ZlT s n w hE (by omega) c q hC ha
end Go.Proofs.YtkfddjopbocpkaaGreatDoor
