/- Lemmas of this claim. -/
import Derived.Test.YtkfddjopbocpkaaGreatDoorN30
import Derived.Test.YtkfddjopbocpkaaGreatDoorN31
set_option linter.unusedVariables false
set_option linter.unusedSimpArgs false
set_option maxRecDepth 100000
set_option maxHeartbeats 4000000
namespace Go.Proofs.YtkfddjopbocpkaaGreatDoor
open Go.Lib (hid)
open Go.RowKit
theorem tk2(s:List UInt8):(((⟨s.toArray⟩:ByteArray).extract 0 2).toList==[35,110])=(s.take 2==[35,110]):=by rw[Zm8,ZqK];rfl
theorem Zse{P:Program}{ops:Array Oper}{o:Oper}{a:Act}{w:World}{K:Act→World→Prop}{Q:Exit→Act→World→Prop}{E:Prop}
 (hg:o.guard=none) (s x:Operand) (t:TypeId) (hop:o.op=Op.call {callee:=Callee.builtin Builtin.append,args:= #[s,x],argTypes:= #[t,t]})
 (e:TypeId) (i:TypeInfo) (z:Value) (size bytes:Nat) (ht:P.underlying t=some (.slice e)) (hi:P.info? e=some i) (hz:i.zero=some z)
 (hsize:i.size=size) (hby:i.bytes=bytes) (hzs:z.cells.size=size) (hsz:0<size)
 (v:Value) (n:Nat) (xs:List Value) (hs:a.eval s=v) (hown:w.ownsRow 0 e size v n xs)
 (v2:Value) (m:Nat) (ys:List Value) (hx:a.eval x=v2) (hown2:w.ownsRow 0 e size v2 m ys) (h1:∀u∈ys,u.oneCell'=true)
 (h63:n+m≤maxLen) (hbytes:(n+m)*bytes≤140737488355328)
 (hK:∀v' w',w'.ownsRow 0 e size v' (n+m) (xs++ys)→Fr (fun k=>v.ownBlock=some k) w w'→(∀k,v'.ownBlock=some k→v.ownBlock=some k∨w.heap.size≤k)→K (a.put o.dst v') w'):
 if Region.wanted o (yielded ops a.tmps)=true then Oper.wp P o a w K Q else E:=by
 rcases hown2.2 with⟨e2,hm⟩|⟨g,cap,cur,e2,_⟩
 ·subst hm;have hy:ys=[]:=List.length_eq_zero_iff.1 (by have:=hown2.1;omega);subst hy;obtain⟨ad,c,rfl⟩:=Zb hown;have hnc:n≤c:=by
   rcases hown.2 with⟨e,hn⟩|⟨g,cap,cur,e,_,_,hc,_⟩
   ·omega
   ·injection e with _ _ e;omega
  have hw:Region.wanted o (yielded ops a.tmps)=true:=by simp[Region.wanted,hg]
  rw[if_pos hw];rw[e2]at hx;unfold Oper.wp execOp;simp only[hop,resolve,invoke,builtin,Sem.run_bind,Sem.run_pure,Result.andThen_ok,List.map_toArray,List.map_cons,List.map_nil,hs,hx,Zeo w t o.type e i ht hi ad n c hnc];exact hK _ _ (by rw[List.append_nil];exact hown) (Fr.refl _ _) (fun k hk=>.inl hk)
 ·rw[e2]at hx hown2;exact step_append_g hg s x t hop e i z size bytes ht hi hz hsize hby hzs hsz v n xs hs hown ⟨g,0,none⟩ m cap ys hx hown2.1 (hown2.cells (g:=g) rfl) h1 h63 hbytes (fun v' w' q1 q2=>hK v' w' q1 q2.fr q2.old)
theorem Cms.one{S:Nat→Prop}{w:World}:∀{cs:List CV} {rs:List (Array Value)},Cms S w cs rs→∀u∈flatR rs,u.oneCell'=true
 |[],[],_,u,h=>by cases h
 |c::cs,r::rs,hc,u,h=>by
  have e:flatR (r::rs)=r.toList++flatR rs:=rfl;rw[e]at h;rcases List.mem_append.1 h with h|h
  ·obtain⟨_,_,_,e3,_,hone,_⟩:=hc.2.1.opened;injection e3 with e3;subst e3;exact row_one hone u h
  ·exact Cms.one hc.2.2 u h
 |[],_::_,h,_,_=>h.elim
 |_::_,[],h,_,_=>h.elim
theorem Cms.app{S:Nat→Prop}{w:World}{ds:List CV}{qs:List (Array Value)}(h2:Cms S w ds qs):∀{cs:List CV} {rs:List (Array Value)},Cms S w cs rs→Cms S w (cs++ds) (rs++qs)
 |[],[],_=>h2
 |_::_,_::_,h=>⟨h.1,h.2.1,Cms.app h2 h.2.2⟩
 |[],_::_,h=>h.elim
 |_::_,[],h=>h.elim
def Zss:ZqB→Int
 | .inl z=>z.1
 | .inr _=>0
theorem ZlB.any{R:ZqB}{w w':World}{e:Ending}(h:ZlB R w e w'):∃q va n vc mv p,e=.returned (.tuple #[.agg #[.bool q,.slice va n vc],mv,.int .i64 p,.int .i64 (Zss R)])∧Fr nob w w':=by
 obtain⟨f,h⟩:=h;cases R with
 |inl z=>exact⟨false,none,0,0,_,_,h,f⟩
 |inr r=>
  obtain⟨cv,mv,h,hc,_⟩:=h;obtain⟨va,vc,rfl⟩:=hc.shape;exact⟨_,va,_,vc,mv,_,h,f⟩
attribute [-go_sem] storeVar
theorem Zsh(s t:List UInt8)(w:World)(hE:Env w)(hl:s.length≤9223372036854775807)(hlt:t.length≤9223372036854775807)
 (h:200<s.length∨(s.length≤200∧200<t.length)∨(s.length≤200∧t.length≤200∧1<t.length∧t.take 2=[35,110])):
 Calls Tryz.prog 8 #[.string ⟨s.toArray⟩,.string ⟨t.toArray⟩] w fun e w'=>e=.returned (.bool true)∧Fr nob w w':=by
 have HA:=hid (fun(w':World) (f:Fr nob w w')=>ZbV w' (hE.on f));have HA1:=hid (HA.out w (Fr.refl _ _));have h7:=tk2 t;clear hE;rcases h with h|⟨h,h2⟩|⟨h,h2,h3,h4⟩
 ·have hi:(200:Int)<s.length:=by omega
  clear h7;go_enter Tryz.func8,Tryz.ntmps8;go_wp2_with fail;refine HA1.out.mono ?_;rintro e w1 ⟨rfl,f1⟩;have F1:=hid f1;clear f1;have HA2:=hid (HA.out w1 F1.out);go_wp2_with fail;refine HA2.out.mono ?_;rintro e w2 ⟨rfl,f2⟩;go_wp2;go_ret;exact⟨rfl,F1.out.trans' f2⟩
 ·have hi:(s.length:Int)≤200:=by omega
  have hj:(200:Int)<t.length:=by omega
  clear h7;go_enter Tryz.func8,Tryz.ntmps8;go_wp2_with fail;refine HA1.out.mono ?_;rintro e w1 ⟨rfl,f1⟩;have F1:=hid f1;clear f1;have HA2:=hid (HA.out w1 F1.out);go_wp2_with fail;refine HA2.out.mono ?_;rintro e w2 ⟨rfl,f2⟩;go_wp2;go_ret;exact⟨rfl,F1.out.trans' f2⟩
 ·have hi:(s.length:Int)≤200:=by omega
  have hj:(t.length:Int)≤200:=by omega
  have hk:(1:Int)<t.length:=by omega
  have hk2:(2:Int)≤t.length:=by omega
  rw[h4]at h7;go_enter Tryz.func8,Tryz.ntmps8;go_wp2_with fail;refine HA1.out.mono ?_;rintro e w1 ⟨rfl,f1⟩;have F1:=hid f1;clear f1;have HA2:=hid (HA.out w1 F1.out);go_wp2_with fail;refine HA2.out.mono ?_;rintro e w2 ⟨rfl,f2⟩;go_wp2;go_ret;exact⟨rfl,F1.out.trans' f2⟩
theorem Zsn(s t:List UInt8)(w:World)(hE:Env w)(hl:s.length≤200)(hlt:t.length≤200)(hn:t.take 2≠[35,110])(hz:Zss (ZdO false s)≠0∨Zss (ZdO false t)≠0):
 Calls Tryz.prog 8 #[.string ⟨s.toArray⟩,.string ⟨t.toArray⟩] w fun e w'=>e=.returned (.bool true)∧Fr nob w w':=by
 have HA:=hid (ZbV w hE);have h7:=tk2 t;rw[show(t.take 2==[35,110])=false from by rw[beq_eq_false_iff_ne];exact hn]at h7;have HP1:=hid (fun(w':World) (g:Fr nob w w')=>ZbE s ⟨⟩ w' (by omega) (hE.on g));have HP2:=hid (fun(w':World) (g:Fr nob w w')=>ZbE t ⟨⟩ w' (by omega) (hE.on g));have hi:(s.length:Int)≤200:=by omega
 have hj:(t.length:Int)≤200:=by omega
 obtain⟨ea,hea⟩:∃ea,Zss (ZdO false s)=ea:=⟨_,rfl⟩;obtain⟨eb,heb⟩:∃eb,Zss (ZdO false t)=eb:=⟨_,rfl⟩;rw[hea,heb]at hz;have HEA:=hid hea;have HEB:=hid heb;clear hE hn hea heb;have hza:(ea !=0)=true∨((ea !=0)=false∧(eb !=0)=true):=by
  by_cases h:ea=0
  ·exact .inr ⟨by simp[h],by simpa using hz.resolve_left (fun g=>g h)⟩
  ·exact .inl (by simpa using h)
 clear hz;go_enter Tryz.func8,Tryz.ntmps8;go_wp2_with fail;refine HA.out.mono ?_;rintro e w1 ⟨rfl,f1⟩;have F1:=hid f1;clear f1;go_wp2_with fail
 all_goals
  refine(HP1.out _ F1.out).mono ?_;intro e w2 he;obtain⟨q,va,n,vc,mv,p,rfl,f2⟩:=he.any;rw[HEA.out];obtain⟨_,f3,_⟩:=ZaM w2 zS2 #[.bool q,.slice va n vc] 50;obtain⟨w3,hw3⟩:∃w3,w3=(w2.alloc (.cells zS2 50)).setRow w2.heap.size #[.bool q,.slice va n vc]:=⟨_,rfl⟩;rw[←hw3]at f3;have HW3:=hid hw3;have F3:=hid (F1.out.trans' (f2.trans' f3));clear hw3 f2 f3 he;go_wp2_with(first|refine wpList_store_row rfl 50 _ _ rfl w2.heap.size #[.bool q,.slice va n vc] rfl rfl 50 _ (newAt _ _) (info_S2 _ _) rfl (ZiR _ _ _ _) ?_|rw[←HW3.out]);refine(HP2.out _ F3.out).mono ?_;intro e w4 he;obtain⟨q2,vb,n2,vd,mv2,p2,rfl,f4⟩:=he.any;rw[HEB.out];obtain⟨_,f5,_⟩:=ZaM w4 zS2 #[.bool q2,.slice vb n2 vd] 50;obtain⟨w5,hw5⟩:∃w5,w5=(w4.alloc (.cells zS2 50)).setRow w4.heap.size #[.bool q2,.slice vb n2 vd]:=⟨_,rfl⟩;rw[←hw5]at f5;have HW5:=hid hw5;have F5:=hid (F3.out.trans' (f4.trans' f5));clear hw5 f4 f5 he;rcases hza with h|⟨h,h'⟩
  ·go_wp2_with(first|refine wpList_store_row rfl 50 _ _ rfl w4.heap.size #[.bool q2,.slice vb n2 vd] rfl rfl 50 _ (newAt _ _) (info_S2 _ _) rfl (ZiR _ _ _ _) ?_|rw[←HW5.out]);go_ret;exact⟨rfl,F5.out⟩
  ·go_wp2_with(first|refine wpList_store_row rfl 50 _ _ rfl w4.heap.size #[.bool q2,.slice vb n2 vd] rfl rfl 50 _ (newAt _ _) (info_S2 _ _) rfl (ZiR _ _ _ _) ?_|rw[←HW5.out]);go_ret;exact⟨rfl,F5.out⟩
structure TwoEnd(b:Nat)(w8 w10:World)(ac bc:List CV)(rsA rsB:List (Array Value))(v:Value):Prop where
 fr:Fr nob w8 w10
 own:Zdw (fun k=>k=b) w10 (ac++bc) v
 new:∀k,v.ownBlock=some k→b<k
theorem Zsq{b:Nat}{w8 w9 w10:World}{ac bc:List CV}{rsA rsB:List (Array Value)}{u v va vb:Value}(f89:Fr nob w8 w9)(o9:∀k,u.ownBlock=some k→(Value.slice none 0 0).ownBlock=some k∨w8.drew.heap.size≤k)(f10:Fr (fun k=>u.ownBlock=some k) w9 w10)(o10:∀k,v.ownBlock=some k→u.ownBlock=some k∨w9.heap.size≤k)
 (hown:w10.ownsRow 0 35 20 v (ac.length+bc.length) (flatR rsA++flatR rsB)) (hA:Cms (LB (fun k=>k=b) va) w8 ac rsA) (hB:Cms (LB (fun k=>k=b) vb) w8 bc rsB) (hs:w8.heap.size=b+1):TwoEnd b w8 w10 ac bc rsA rsB v:=by
 have h9:∀k,u.ownBlock=some k→w8.heap.size≤k:=fun k hk=>by
  rcases o9 k hk with e|e
  ·cases e
  ·exact e
 have hsz:=f89.size;have f:Fr nob w8 w10:=f89.trans f10 (fun i hi e=>by have:=h9 i e;omega);have hn:∀k,v.ownBlock=some k→w8.heap.size≤k:=fun k hk=>by
  rcases o10 k hk with e|e
  ·exact h9 k e
  ·omega
 refine⟨f,⟨rsA++rsB,?_,?_⟩,fun k hk=>by have:=hn k hk;omega⟩
 ·exact(Cms.keep f (fun _ x=>x.elim) (fun k hk e=>e.elim .inl (fun e=>by have:=hn k e;omega)) hB).app (Cms.keep f (fun _ x=>x.elim) (fun k hk e=>e.elim .inl (fun e=>by have:=hn k e;omega)) hA)
 ·have e:flatR (rsA++rsB)=flatR rsA++flatR rsB:=by unfold flatR;simp
  rw[e,List.length_append];exact hown
theorem Zsi{w:World}{b j n c:Nat}{a:Option Addr}(hc:(w.cell? ⟨b,j,none⟩).isSome=true)(hf:w.frozen? ⟨b,j,none⟩=false):
 Sem.run Tryz.prog (storeVar 48 ⟨b,j,none⟩ (.slice a n c)) w=.ok () (w.setCell ⟨b,j,none⟩ (.slice a n c)):=by
 obtain⟨old,ho⟩:=Option.isSome_iff_exists.1 hc;have hc1:(Value.slice a n c).cells= #[.slice a n c]:=rfl;have hi:(Tryz.prog.info? 48).map (·.size)=some 1:=by kernel_rfl
 cases hq:Tryz.prog.info? 48 with
 |none=>rw[hq]at hi;cases hi
 |some q=>
  have hs:q.size=1:=by simpa[hq]using hi
  simp[storeVar,sizeOf,typeInfo,hq,hc1,hs,go_sem,ho,hf]
attribute [local go_sem] Zsi
theorem Zso{cs:List CV}{t:List UInt8}(h:labL cs t<0):∀d∈cs,d.name=58→d.arg≠t:=by
 intro d hd hn ha;unfold labL at h;cases hf:cs.findIdx? (isL t)with
 |some k=>rw[hf]at h;simp only at h;omega
 |none=>
  rw[List.findIdx?_eq_none_iff]at hf;have:=hf d hd;unfold isL at this;rw[hn,ha]at this;simp at this
theorem Zsr(k:Nat){ac bc:List CV}(ha:∀c∈ac,c.few)(hb:∀c∈bc,c.few):SmC (ac++bc.map (shC k)) (ac++bc):=by
 have hs:∀c∈bc.map (shC k),c.few:=fun c hc=>by
  obtain⟨d,hd,rfl⟩:=List.mem_map.1 hc;exact hb d hd
 refine⟨by simp,fun j h1 h2=> ?_,fun c hc=> ?_,fun c hc=> ?_⟩
 ·by_cases hj:j<ac.length
  ·rw[List.getElem_append_left hj,List.getElem_append_left hj];exact⟨CV.same_sh0 _,rfl⟩
  ·rw[List.getElem_append_right (by omega),List.getElem_append_right (by omega),List.getElem_map];exact⟨CV.same_hs k _,rfl⟩
 ·rcases List.mem_append.1 hc with hc|hc
  ·exact ha c hc
  ·exact hs c hc
 ·rcases List.mem_append.1 hc with hc|hc
  ·exact ha c hc
  ·exact hb c hc
theorem two_ok(s t:List UInt8)(w:World)(hE:Env w)(hl:s.length≤200)(hlt:t.length≤200)(hn:t.take 2≠[35,110])(aq bq:Bool)(ac bc:List CV)(ma mb:List (Nat×List UInt8))(hS:ZdO false s=.inr (⟨aq,ac⟩,ma))(hT:ZdO false t=.inr (⟨bq,bc⟩,mb)):
 Calls Tryz.prog 8 #[.string ⟨s.toArray⟩,.string ⟨t.toArray⟩] w fun e w'=>e=.returned (.bool true)∧Fr nob w w':=by
 obtain⟨hfa,ha100⟩:=scrS_few hS;obtain⟨hfb,hb100⟩:=scrS_few hT;simp only at ha100 hb100 hfa hfb;have HSM:=hid (Zsr (s.length+1) hfa hfb);have HTW:=hid (fun hlab=>Zsp hS hT (by simp;omega) hlab);have HA:=hid (ZbV w hE);have h7:=tk2 t;rw[show(t.take 2==[35,110])=false from by rw[beq_eq_false_iff_ne];exact hn]at h7;have hp1:=fun(w':World) (g:Fr nob w w')=>ZbE s ⟨⟩ w' (by omega) (hE.on g);have hp2:=fun(w':World) (g:Fr nob w w')=>ZbE t ⟨⟩ w' (by omega) (hE.on g);have HP3:=hid (fun(w':World) (g:Fr nob w w')=>ZbE (s++10::t) ⟨⟩ w' (by simp;omega) (hE.on g));rw[hS]at hp1;rw[hT]at hp2;have HP1:=hid hp1;have HP2:=hid hp2;have hi:(s.length:Int)≤200:=by omega
 have hj:(t.length:Int)≤200:=by omega
 have haI:(ac.length:Int)≤100:=by omega
 have hbI:(bc.length:Int)≤100:=by omega
 clear hE hp1 hp2 hS hT hfa hfb hn;go_enter Tryz.func8,Tryz.ntmps8;go_wp2_with fail;refine HA.out.mono ?_;rintro e w1 ⟨rfl,f1⟩;have F1:=hid f1;clear f1;go_wp2_with fail
 all_goals
  refine(HP1.out _ F1.out).mono ?_;rintro e w2 ⟨f2,cv,mv,rfl,hcm,hma⟩;simp only at hcm;obtain⟨va,vc,rfl⟩:=hcm.shape;obtain⟨hb3,f3,_⟩:=ZaM w2 zS2 #[.bool aq,.slice va ac.length vc] 50;obtain⟨w3,hw3⟩:∃w3,w3=(w2.alloc (.cells zS2 50)).setRow w2.heap.size #[.bool aq,.slice va ac.length vc]:=⟨_,rfl⟩;rw[←hw3]at f3 hb3;have HW3:=hid hw3;have F3:=hid (F1.out.trans' (f2.trans' f3));have HB3:=hid hb3;have HC3:=hid (hcm.on f3);clear hw3 f2 f3 hcm hma hb3;go_wp2_with(first|refine wpList_store_row rfl 50 _ _ rfl w2.heap.size #[.bool aq,.slice va ac.length vc] rfl rfl 50 _ (newAt _ _) (info_S2 _ _) rfl (ZiR _ _ _ _) ?_|rw[←HW3.out]);refine(HP2.out _ F3.out).mono ?_;rintro e w4 ⟨f4,cv,mv2,rfl,hcm,hma⟩;simp only at hcm;obtain⟨vb,vd,rfl⟩:=hcm.shape;obtain⟨hb5,f5,hs5⟩:=ZaM w4 zS2 #[.bool bq,.slice vb bc.length vd] 50;obtain⟨w5,hw5⟩:∃w5,w5=(w4.alloc (.cells zS2 50)).setRow w4.heap.size #[.bool bq,.slice vb bc.length vd]:=⟨_,rfl⟩
  rw[←hw5]at f5 hb5 hs5;have HW5:=hid hw5;have F5:=hid (F3.out.trans' (f4.trans' f5));have HB5:=hid hb5;have HC5:=hid (hcm.on f5);have HA5:=hid (HC3.out.on (f4.trans' f5));have HB35:=hid ((f4.trans' f5).heap HB3.out (fun x=>x));clear hw5 f4 f5 hcm hma hb5 hs5;have p1:=Zay (cell_at (v:=.slice vb bc.length vd) (j:=1) HB5.out rfl);go_wp2_with(first|refine wpList_store_row rfl 50 _ _ rfl w4.heap.size #[.bool bq,.slice vb bc.length vd] rfl rfl 50 _ (newAt _ _) (info_S2 _ _) rfl (ZiR _ _ _ _) ?_|rw[←HW5.out]);have q0:=Zay (cell_at (v:=.bool aq) (j:=0) HB35.out rfl);have q1:=Zay (cell_at (v:=.slice va ac.length vc) (j:=1) HB35.out rfl)
  go_loopw [66] (fun i wr=>∃k:Nat,i=.int .i64 k∧k≤bc.length∧(∀j (hj:j<bc.length),j<k→bc[j].name=58→labL ac bc[j].arg<0)∧Fr nob w5 wr) (fun i _=>bc.length-(intOf i).toNat)
  case atStart=>exact⟨0,rfl,Nat.zero_le _,fun _ _ h=>absurd h (Nat.not_lt_zero _),Fr.refl _ _⟩
  case round=>
   obtain⟨k,rfl,hk,hno,fr⟩:=hrel;have FR:=hid fr;have HNO:=hid hno;by_cases hlt:k<bc.length
   ·obtain⟨g,cap,r,e,_,hr,hv,hra⟩:=HC5.out.get hlt;injection e with e1 _ e2;subst e1;subst e2;obtain⟨c,hc⟩:∃c,bc[k]=c:=⟨_,rfl⟩;rw[hc]at hv;obtain⟨cs,pa,pc,e3,_,hone,_,_,hrow⟩:=hv.opened;injection e3 with e3;subst e3;obtain⟨hb7,f7⟩:=Zen wr r;obtain⟨w7,hw7⟩:∃w7,w7=(wr.alloc (.cells zC 35)).setRow wr.heap.size r:=⟨_,rfl⟩;rw[←hw7]at hb7 f7;have rc:=hrow w7 _ hb7;have HRA:=hid (show wr.rangeAt g (k*20) r.toList from fun j v hj=>fr.cell (hra j v hj) (fun x=>x));have HI:=hid (show(Tryz.prog.info? 35).map (·.size)=some r.size by rw[hr];exact info_C);have HI2:=hid (show(Tryz.prog.info? 35).map (·.size)=some r.toList.length by rw[Array.length_toList,hr];exact info_C);have HZ:=hid (show zC.size=r.size by rw[hr];rfl);have HO:=hid hone;have HW7:=hid hw7;have F7:=hid (fr.trans' f7);have HC:=hid hc;have hltI:(k:Int)<bc.length:=by omega
    have q0':=fun W (f:Fr nob w7 W)=>q0 W ((fr.trans' f7).trans' f);have q1':=fun W (f:Fr nob w7 W)=>q1 W ((fr.trans' f7).trans' f);clear q0 q1;clear hra hv hone hrow hw7 hb7 f7 fr hno hc hr;obtain⟨nm,hnm⟩:∃nm,c.name=nm:=⟨_,rfl⟩;rw[hnm]at rc;have HNM:=hid hnm;have HL:=hid (ZlE aq ac (.slice va ac.length vc) w7 c.arg (by omega) (HA5.out.on F7.out));obtain⟨i,hi9⟩:∃i,labL ac c.arg=i:=⟨_,rfl⟩;rw[hi9]at HL;have HI9:=hid hi9;clear hnm hi9;by_cases h58:nm=58
    ·subst h58;by_cases hge:0≤i
     ·go_wp2_with(first|(refine wpList_load_mid rfl 35 _ rfl g (k*20) ?_ r.toList _ HRA.out Tryz.underlying35 rfl HI2.out ?_)|refine wpList_store_row rfl 35 _ _ rfl wr.heap.size r rfl rfl 35 _ (newAt _ _) HI.out HZ.out HO.out ?_|rw[←HW7.out]);refine HL.out.mono ?_;rintro e w8 ⟨rfl,f8⟩;go_wp2;go_ret;exact⟨rfl,F5.out.trans' (F7.out.trans' f8)⟩
     ·have hlt0:i<0:=by omega
      clear hge;go_wp2_with(first|(refine wpList_load_mid rfl 35 _ rfl g (k*20) ?_ r.toList _ HRA.out Tryz.underlying35 rfl HI2.out ?_)|refine wpList_store_row rfl 35 _ _ rfl wr.heap.size r rfl rfl 35 _ (newAt _ _) HI.out HZ.out HO.out ?_|rw[←HW7.out]);refine HL.out.mono ?_;rintro e w8 ⟨rfl,f8⟩;have F8:=hid (F7.out.trans' f8);clear f8;go_wp2;go_roundw
      case rel=>exact⟨k+1,by go_num,by omega,fun j hj hjk h=>(by rcases Nat.lt_succ_iff_lt_or_eq.1 hjk with h'|rfl;(·exact HNO.out j hj h' h);(·rw[HC.out,HI9.out];exact hlt0)),F8.out⟩
      case measure=>simp[intOf];omega
    ·have t9:((nm.toNat:Int)==58)=false:=Zn (b:=58) h58;go_wp2_with(first|(refine wpList_load_mid rfl 35 _ rfl g (k*20) ?_ r.toList _ HRA.out Tryz.underlying35 rfl HI2.out ?_)|refine wpList_store_row rfl 35 _ _ rfl wr.heap.size r rfl rfl 35 _ (newAt _ _) HI.out HZ.out HO.out ?_|rw[←HW7.out]);go_roundw
     case rel=>exact⟨k+1,by go_num,by omega,fun j hj hjk h=>(by rcases Nat.lt_succ_iff_lt_or_eq.1 hjk with h'|rfl;(·exact HNO.out j hj h' h);(·rw[HC.out,HNM.out]at h;exact(h58 h).elim)),F7.out⟩
     case measure=>simp[intOf];omega
   ·have hke:k=bc.length:=by omega
    subst hke;have hlab:∀c∈bc,c.name=58→∀d∈ac,d.name=58→d.arg≠c.arg:=fun c hc hn d hd hdn=>by
     obtain⟨j,hj,rfl⟩:=List.getElem_of_mem hc;exact Zso (HNO.out j hj hj hn) d hd hdn
    have HT:=hid (HTW.out hlab);clear hno hlab fr HTW HNO HP1 HP2 HA;have F6:=hid (F5.out.trans' FR.out);have HP4:=hid (HP3.out _ F6.out);have q0':=fun W (f:Fr nob wr W)=>q0 W (FR.out.trans' f);have q1':=fun W (f:Fr nob wr W)=>q1 W (FR.out.trans' f);have p1':=fun W (f:Fr nob wr W)=>p1 W (FR.out.trans' f);clear HP3 q0 q1 p1;by_cases hbig:100<ac.length+bc.length
    ·obtain⟨p,hp⟩:=HT.out.1 hbig;rw[hp]at HP4;have hbI2:(100:Int)<(ac.length:Int)+bc.length:=by omega
     clear hp HT HSM;go_wp2_with fail;refine HP4.out.mono ?_;rintro e w6 ⟨f6,rfl⟩;obtain⟨_,f7,_⟩:=ZaM w6 zS2 zS2 50;obtain⟨w7,hw7⟩:∃w7,w7=(w6.alloc (.cells zS2 50)).setRow w6.heap.size zS2:=⟨_,rfl⟩;rw[←hw7]at f7;have r1:=q1' w7 (f6.trans' f7);have r2:=p1' w7 (f6.trans' f7);have HW7:=hid hw7;have F7:=hid (F6.out.trans' (f6.trans' f7));clear hw7 f6 f7 q0' q1' p1';go_wp2_with(first|refine wpList_store_row rfl 50 _ _ rfl w6.heap.size zS2 rfl rfl 50 _ (newAt _ _) (info_S2 _ _) rfl (by kernel_rfl) ?_|rw[←HW7.out]);go_ret;exact⟨rfl,F7.out⟩
    ·obtain⟨M,hp⟩:=HT.out.2 (by omega);rw[hp]at HP4;have hbI2:(ac.length:Int)+bc.length≤100:=by omega
     obtain⟨xc,hxc⟩:∃xc,ac++bc.map (shC (s.length+1))=xc:=⟨_,rfl⟩;rw[hxc]at HP4 HSM;have hxl:xc.length≤100:=by rw[←hxc];simp;omega
     clear hp HT hbig hxc;go_wp2_with fail;refine HP4.out.mono ?_;rintro e w6 ⟨f6,cv,mv3,rfl,hcm,hma⟩;simp only at hcm;obtain⟨vx,vy,rfl⟩:=hcm.shape;obtain⟨hb7,f7,hs7⟩:=ZaM w6 zS2 #[.bool aq,.slice vx xc.length vy] 50;obtain⟨w7,hw7⟩:∃w7,w7=(w6.alloc (.cells zS2 50)).setRow w6.heap.size #[.bool aq,.slice vx xc.length vy]:=⟨_,rfl⟩;rw[←hw7]at f7 hb7 hs7;obtain⟨hb8,f8,hs8⟩:=ZaM w7 zS2 #[.bool aq,.slice none 0 0] 50;obtain⟨w8,hw8⟩:∃w8,w8=(w7.alloc (.cells zS2 50)).setRow w7.heap.size #[.bool aq,.slice none 0 0]:=⟨_,rfl⟩;rw[←hw8]at f8 hb8 hs8;have f68:=f6.trans' (f7.trans' f8);have r0:=q0' w7 (f6.trans' f7);have r1:=q1' w7 (f6.trans' f7);have r2:=p1' w7 (f6.trans' f7);have q1'':=fun W (f:Fr nob w8 W)=>q1' W (f68.trans' f);have p1'':=fun W (f:Fr nob w8 W)=>p1' W (f68.trans' f);have hb78:=f8.heap hb7 (fun x=>x);have HX7:=hid (hcm.on f7);have HF78:=hid f8;have HSZ7:=hid ((F6.out.trans' (f6.trans' f7)).size);have HB78:=hid hb78;have HB8:=hid hb8;have HS8:=hid hs8;have HS7:=hid hs7
     have hz57:=(FR.out.trans' (f6.trans' f7)).size;obtain⟨rsA,hcA,hoA⟩:=HA5.out.keep (S':=fun k=>k=w7.heap.size) (FR.out.trans' f68) (fun _ x=>x.elim) (fun _ _ x=>x) (fun k hk e=>by have e:k=w7.heap.size:=e;omega);obtain⟨rsB,hcB,hoB⟩:=HC5.out.keep (S':=fun k=>k=w7.heap.size) (FR.out.trans' f68) (fun _ x=>x.elim) (fun _ _ x=>x) (fun k hk e=>by have e:k=w7.heap.size:=e;omega);have HCA:=hid hcA;have HCB:=hid hcB;have HOA:=hid hoA;have HOB:=hid hoB;have c80:=Zay (cell_at (v:=.bool aq) (j:=0) hb8 rfl);have c81:=Zay (cell_at (v:=.slice none 0 0) (j:=1) hb8 rfl);obtain⟨i0,hi0,hz0,hz1,hz2⟩:=info_parts Zlz;have HW7:=hid hw7;have HW8:=hid hw8;have F8:=hid (F6.out.trans' f68);clear hw7 hw8 f6 f7 f8 f68 q0' q1' p1' hcm hma hb7 hb8 hb78 hcA hcB hoA hoB hs7 hs8;go_wp2_with(first|refine wpList_store_row rfl 50 _ _ rfl w6.heap.size #[.bool aq,.slice vx xc.length vy] rfl rfl 50 _ (newAt _ _) (info_S2 _ _) rfl (ZiR _ _ _ _) ?_|refine wpList_store_row rfl 50 _ _ rfl w7.heap.size #[.bool aq,.slice none 0 0] rfl rfl 50 _ (newAt _ _) (info_S2 _ _) rfl (ZiR _ _ _ _) ?_|rw[←HW7.out]|rw[←HW8.out])
     simp only[Act.put]
     go_region_law (first
      |(refine Zse rfl (.tmp 105) (.tmp 107) 48 rfl 35 i0 (.agg zC) 20 240 Tryz.underlying48 hi0 hz0 hz1 hz2 rfl (by decide) (.slice none 0 0) 0 [] (by rfl) (World.ownsRow_nil _ _ _ _) (.slice va ac.length vc) ac.length (flatR rsA) (by rfl) (ownsRow_fr HOA.out ((Fr.refl nob w8).drew) (fun _ _ x=>x)) HCA.out.one (by unfold maxLen;omega) (by omega) ?_;intro v9 w9 hown9 f9 hold9;rw[Nat.zero_add,List.nil_append]at hown9;obtain⟨a9,c9,rfl⟩:=Zb hown9;have f89:Fr nob w8 w9:=((Fr.refl nob w8).drew).trans' (f9.mono fun k _ e=>by cases e);have p2':=fun W (f:Fr nob w9 W)=>p1'' W (f89.trans' f);have F89:=hid f89;have OW9:=hid hown9;have OL9:=hid hold9;clear hown9 f9 hold9 f89)
      |(refine Zse rfl (.tmp 108) (.tmp 110) 48 rfl 35 i0 (.agg zC) 20 240 Tryz.underlying48 hi0 hz0 hz1 hz2 rfl (by decide) (.slice a9 ac.length c9) ac.length (flatR rsA) (by rfl) OW9.out (.slice vb bc.length vd) bc.length (flatR rsB) (by rfl) (ownsRow_fr HOB.out F89.out (fun _ _ x=>x)) HCB.out.one (by unfold maxLen;omega) (by omega) ?_;intro v10 w10 hown10 f10 hold10;obtain⟨a10,c10,rfl⟩:=Zb hown10;have H10:=hid (show TwoEnd w7.heap.size w8 w10 ac bc rsA rsB (.slice a10 (ac.length+bc.length) c10)from Zsq F89.out OL9.out f10 hold10 hown10 HCA.out HCB.out HS8.out);have k1:=cell_at (v:=.slice none 0 0) (j:=1) (H10.out.fr.heap HB8.out (fun x=>x)) rfl;have k2:=unfrozen_at (H10.out.fr.heap HB8.out (fun x=>x)) 1;clear hown10 f10 hold10))
     all_goals
      obtain⟨w11,hw11⟩:∃w11,w11=w10.setCell ⟨w7.heap.size,1,none⟩ (.slice a10 (ac.length+bc.length) c10):=⟨_,rfl⟩;have f11:Fr (fun k=>k=w7.heap.size) w10 w11:=by rw[hw11];exact(Fr.refl (fun k=>k=w7.heap.size) w10).setCell (p:=⟨w7.heap.size,1,none⟩) (fun _=>rfl) _
      have hb11:=Za (H10.out.fr.heap HB8.out (fun x=>x)) 1 (.slice a10 (ac.length+bc.length) c10);rw[←hw11]at hb11;have hx11:=f11.heap (H10.out.fr.heap HB78.out (fun x=>x)) (fun e=>by have e:w6.heap.size=w7.heap.size:=e;have:=HS7.out;omega);have x0:=Zay (cell_at (v:=.bool aq) (j:=0) hx11 rfl);have x1:=Zay (cell_at (v:=.slice vx xc.length vy) (j:=1) hx11 rfl);have y0:=Zay (cell_at (v:=.bool aq) (j:=0) hb11 rfl);have y1:=Zay (cell_at (v:=.slice a10 (ac.length+bc.length) c10) (j:=1) hb11 rfl);have hsa:=Zm4 aq xc (ac++bc) _ (.slice a10 (ac.length+bc.length) c10) w11 (by omega) (HX7.out.past (Nat.le_refl _) (HF78.out.trans' H10.out.fr) f11) (H10.out.own.keep f11 (fun _ x=>x) (fun k hk e=>by have e:k=w7.heap.size:=e;have:=H10.out.new k hk;omega) (fun _ _ x=>x.elim)) HSM.out;have HSA:=hid hsa;have HW11:=hid hw11;have F11:=hid ((F8.out.trans' H10.out.fr).trans f11 (fun i hi e=>by have e:i=w7.heap.size:=e;have:=HSZ7.out;omega))
      clear hw11 f11 hb11 hx11 hsa k1 k2 q1'' p1'' c80 c81;go_wp2_with(rw[←HW11.out]);refine HSA.out.mono ?_;rintro e w12 ⟨rfl,f12⟩;go_wp2;go_ret;exact⟨rfl,F11.out.trans' f12⟩
end Go.Proofs.YtkfddjopbocpkaaGreatDoor
