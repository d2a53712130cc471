/- Lemmas of this claim. -/
import Derived.Test.YtgllcniibbaoaaaGreatDoorM32
import Derived.Test.YtgllcniibbaoaaaGreatDoorM33
set_option linter.all false
set_option maxRecDepth 100000
set_option maxHeartbeats 4000000
namespace Go.Proofs.YtgllcniibbaoaaaGreatDoor
open Go.RowKit
theorem ZkU:∀(ms:List (Nat×List UInt8)) (k:Nat) (h:k<ms.length),(mkC ms)[k*2]? =some (.int .i64 (ms[k].1:Nat))∧(mkC ms)[k*2+1]? =some (.string ⟨ms[k].2.toArray⟩)
 |m::r,0,_=>by constructor<;>rfl
 |m::r,k+1,h=>by
  have:=ZkU r k (by simpa using h);have e:mkC (m::r)=.int .i64 (m.1:Nat):: .string ⟨m.2.toArray⟩::mkC r:=rfl;rw[e,show(k+1)*2=k*2+1+1 by omega];exact this
theorem ZeL(ms:List (Nat×List UInt8)):(mkC ms).length=2*ms.length:=by
 induction ms with
 |nil=>rfl
 |cons m r ih=>have e:mkC (m::r)=.int .i64 (m.1:Nat):: .string ⟨m.2.toArray⟩::mkC r:=rfl
               rw[e,List.length_cons,List.length_cons,ih,List.length_cons];omega
theorem OwM.get{w:World}{ms:List (Nat×List UInt8)}{v:Value}(h:OwM w ms v){k:Nat}(hk:k<ms.length):
 ∃g cap,v=.slice (some ⟨g,0,none⟩) ms.length cap∧g<w.heap.size∧w.cell? ⟨g,k*2,none⟩=some (.int .i64 (ms[k].1:Nat))∧w.cell? ⟨g,k*2+1,none⟩=some (.string ⟨ms[k].2.toArray⟩):=by
 have hl:=ZeL ms;have h0:=h;unfold OwM at h;have d:=Z3 h;obtain⟨a,c,rfl⟩:=Zb h;rcases h.2 with⟨e,hn⟩|⟨r,cap,b,e,_,hr,_⟩
 ·omega
 ·injection e with e1 e2 e3;subst e1;exact⟨r,c,rfl,lt_heap hr,(h.cellAt (k*2) (by omega)).trans (ZkU ms k hk).1,(h.cellAt (k*2+1) (by omega)).trans (ZkU ms k hk).2⟩
theorem Zqy{w:World}{b:Nat}{v0 v1:Value}{T:TypeId}(h:w.heap[b]? =some (.cells #[v0,v1] T (0,0))):∀w',Fr nob w w'→
 (w'.cell? ⟨b,0,none⟩=some v0∧w'.cell? ⟨b,1,none⟩=some v1)∧(w'.frozen? ⟨b,0,none⟩=false∧w'.frozen? ⟨b,1,none⟩=false):=fun _ f=>by
 have h':=f.heap h (fun x=>x);exact⟨⟨cell_at h' rfl,cell_at h' rfl⟩,ZF h' _,ZF h' _⟩
open Go.Lib (hid)
theorem MS.get{w:World}{ms:List (Nat×List UInt8)}{v:Value}(h:MS w ms v){k:Nat}(hk:k<ms.length):
 ∃g off cap,v=.slice (some ⟨g,off,none⟩) ms.length cap∧w.cell? ⟨g,off+k*2,none⟩=some (.int .i64 (ms[k].1:Nat))∧w.cell? ⟨g,off+k*2+1,none⟩=some (.string ⟨ms[k].2.toArray⟩):=by
 rcases h with⟨_,rfl⟩|⟨g,off,cap,rfl,h⟩
 ·simp at hk
 ·refine⟨g,off,cap,rfl,h _ _ (ZkU ms k hk).1,?_⟩;have:=h _ _ (ZkU ms k hk).2;rwa[show off+(k*2+1)=off+k*2+1 by omega]at this
theorem Zye(ms:List (Nat×List UInt8))(u v:Value)(w:World)(hl:ms.length≤100000)(hu:OwM w ms u)(hv:MS w ms v):
 Calls Tryz.prog 14 #[u,v] w fun e w'=>e=.returned (.bool true)∧Fr nob w w':=by
 obtain⟨ua,uc,rfl⟩:=Zb hu;obtain⟨va,vc,rfl⟩:=hv.shape;have HU:=hid hu;have HV:=hid hv;clear hu hv;go_enter Tryz.func14,Tryz.ntmps14;go_wp2_with fail
 go_loopw [14] (fun i wr=>∃k:Nat,i=.int .i64 k∧k≤ms.length∧Fr nob w wr) (fun i _=>ms.length-(intOf i).toNat)
 case atStart=>exact⟨0,rfl,Nat.zero_le _,Fr.refl _ _⟩
 case round=>
  obtain⟨k,rfl,hk,fr⟩:=hrel;have FR:=hid fr;clear fr;by_cases c:k<ms.length
  ·obtain⟨g,h,e1,_,c0,c1⟩:=OwM.get (ownsRow_fr HU.out FR.out (fun _ _ x=>x)) c;obtain⟨g2,off,d,e2,d0,d1⟩:=(HV.out.on FR.out).get c;injection e1 with e1 _ e3;subst e1;subst e3;injection e2 with e2 _ e4;subst e2;subst e4;obtain⟨m,hm⟩:∃m,ms[k]=m:=⟨_,rfl⟩;rw[hm]at c0 c1 d0 d1;obtain⟨a,b⟩:=m;simp only at c0 c1 d0 d1;have rA:=Zqy (newAt0 wr (.cells #[.int .i64 (a:Nat),.string ⟨b.toArray⟩] 95));have q0:=fun W (f:Fr nob (wr.alloc (.cells #[.int .i64 (a:Nat),.string ⟨b.toArray⟩] 95)) W)=>(((Fr.refl nob wr).alloc (.cells #[.int .i64 (a:Nat),.string ⟨b.toArray⟩] 95)).trans' f).cell d0 (fun x=>x);have q1:=fun W (f:Fr nob (wr.alloc (.cells #[.int .i64 (a:Nat),.string ⟨b.toArray⟩] 95)) W)=>(((Fr.refl nob wr).alloc (.cells #[.int .i64 (a:Nat),.string ⟨b.toArray⟩] 95)).trans' f).cell d1 (fun x=>x);clear hm;go_wp2_with fail;refine region_fr 16 (by kernel_rfl) (by kernel_rfl) ?_;simp only[List.take_succ_cons,List.take_zero,List.drop_succ_cons,List.drop_zero]
   repeat(quiet_step (fail))
   refine wpQuiet_nil ?_;intro w2 f2;have F2:=hid ((FR.out.alloc _).trans' f2);clear f2 rA q0 q1 c0 c1 d0 d1;go_wp2;go_roundw
   case rel=>exact⟨k+1,by go_num,by omega,F2.out⟩
   case measure=>simp[intOf];omega
  ·obtain rfl:k=ms.length:=by omega
   go_wp2;go_ret;exact⟨rfl,FR.out⟩
theorem Zs7{ps:List Nd}(h:Zeq ps):Za2 ps=Zd3 ps (.cat ps):=by unfold Za2;rw[Zhk h]
section
variable {P o:Nat} {c0:List Nat} {m0:List (Nat×List UInt8)} (s:RxS)
end
section
variable {p l q:List UInt8}
end
def ci(c:List Nat):List Int:=c.map Int.ofNat
theorem ZvW(c:List Nat)(n:Nat):ci (c++[n])=ci c++[(n:Int)]:=by simp[ci]
theorem ZvX(c:List Nat)(n:Nat):(ci c).contains (n:Int)=c.contains n:=by
 induction c with
 |nil=>rfl
 |cons a r ih=>
  rw[show ci (a::r)=(a:Int)::ci r from rfl,List.contains_cons,List.contains_cons,ih];have e:((n:Int)==(a:Int))=(n==a):=by
   rw[Bool.eq_iff_iff];simp only[beq_iff_eq];omega
  rw[e]
def Lks(s:RxS)(t:Nd)(s':RxS):Prop:=t.look s.opened (ci s.closed)=some ((s'.opened:Int),ci s'.closed)
def Zum(s:RxS)(ps:List Nd)(s':RxS):Prop:=Nd.looks ps s.opened (ci s.closed)=some ((s'.opened:Int),ci s'.closed)
theorem Zun{ps:List Nd}{t:Nd}{o:Int}{c:List Int}{o':Int}{c':List Int}(h:Nd.looks ps o c=some (o',c')):Nd.looks (ps++[t]) o c=t.look o' c':=by
 induction ps generalizing o c with
 |nil=>rw[Nd.looks]at h;injection h with h;injection h with h1 h2;subst h1;subst h2;exact looks_one t _ _
 |cons a r ih=>
  rw[List.cons_append,Nd.looks];rw[Nd.looks]at h;cases ha:a.look o c with
  |none=>rw[ha]at h;cases h
  |some p=>obtain⟨o1,c1⟩:=p;rw[ha]at h;exact ih h
theorem Zum.snoc{s s1 s2:RxS}{ps:List Nd}{t:Nd}(h:Zum s ps s1)(ht:Lks s1 t s2):Zum s (ps++[t]) s2:=by unfold Zum;rw[Zun h];exact ht
theorem unit_plain{t:Nd}(h:t.unit=true):t.plain=true:=by cases t<;>first|rfl|cases h
theorem brn_alt{t:Nd}(h:t.brn):t.isAlt=false:=by cases t<;>first|rfl|cases h
theorem joined_look{s s':RxS}{ps:List Nd}(hu:Zeq ps)(h:Zum s ps s'):Lks s (Za2 ps) s':=by
 rw[Zs7 hu]
 match ps,hu,h with
 |[],_,h=>exact h
 |[x],_,h=>unfold Zum at h;rw[looks_one]at h;exact h
 |x::y::r,hu,h=>
  show Nd.look (.cat (x::y::r)) _ _=_;have e:(x::y::r).any (fun n=> !n.plain)=false:=by
   rw[List.any_eq_false];intro z hz;rw[unit_plain (hu z hz)];decide
  rw[Nd.look,e,if_pos (by simp)];exact h
theorem chosen_look{s s':RxS}{ts:List Nd}(hu:Zn3 ts)(h:Zum s ts s'):Lks s (Za3 ts) s':=by
 rw[Zhl hu]
 match ts,hu,h with
 |[],_,h=>exact h
 |[x],_,h=>unfold Zum at h;rw[looks_one]at h;exact h
 |x::y::r,hu,h=>
  show Nd.look (.alt (x::y::r)) _ _=_;have e:(x::y::r).any Nd.isAlt=false:=by
   rw[List.any_eq_false];intro z hz;rw[brn_alt (hu z hz)];decide
  rw[Nd.look,e,if_pos (by simp)];exact h
theorem ZtH{t:Nd}(h:t.atom=true):t.unit=true:=by cases t<;>first|rfl|cases h
theorem Zte{s0 s s':RxS}{t:Nd}{a b:Int}(ht:t.atom=true)(h:Lks s0 t s)(hr:repOk true a b=true)(e1:s'.opened=s.opened)(e2:s'.closed=s.closed):Lks s0 (.rep t a b) s':=by
 unfold Lks at h⊢;rw[Nd.look,ht,if_pos hr,h,e1,e2]
theorem Zt1(l:List UInt8)(k:Nat):(Zp9 l k).1≤255:=by
 unfold Zp9;split
 ·exact Nat.zero_le _
 ·omega
theorem ZuD{l:List UInt8}{ere:Bool}{k:Nat}{m x:Int}{j:Nat}(h:ZlJ l ere k=some (m,x,j)):repOk true m x=true:=by
 have d1:=Zt1 l k;have d2:=Zt1 l (k+(Zp9 l k).2+1);unfold ZlJ at h;simp only at h;split at h
 ·cases h
 ·split at h
  ·split at h
   all_goals
    split at h
    ·cases h
    ·next ha=>
     injection h with h;injection h with h1 h;injection h with h2 h3;subst h1;subst h2;simp only[not_or,not_and]at ha;unfold repOk;simp only[Bool.true_and,Bool.and_eq_true,decide_eq_true_eq,Bool.or_eq_true,beq_iff_eq];refine⟨by omega,by omega,?_⟩
     first|exact .inl rfl|exact .inl trivial|trivial|exact .inr ⟨Int.not_lt.1 (ha.2 (Int.natCast_nonneg _)),by omega⟩
  ·split at h
   ·cases h
   ·injection h with h;injection h with h1 h;injection h with h2 h3;subst h1;subst h2;unfold repOk;simp only[Bool.true_and,Bool.and_eq_true,decide_eq_true_eq,Bool.or_eq_true,beq_iff_eq];exact⟨by omega,by omega,.inr ⟨by omega,by omega⟩⟩
theorem ZsS{ere:Bool}{l:List UInt8}{s0:RxS}:∀(n:Nat) (s:RxS) (t t':Nd) (s':RxS),t.atom=true→Lks s0 t s→Ze8 prg ere l n s t=.inr (t',s')→Lks s0 t' s'∧t'.atom=true
 |0,s,t,t',s',ht,hk,h=>by
  rw[Ze8]at h;injection h with h;injection h with h1 h2;subst h1;subst h2;exact⟨hk,ht⟩
 |n+1,s,t,t',s',ht,hk,h=>by
  have hgo:∀u b,((if ere then s else s.mark u).go (opB ere b).length).opened=s.opened∧((if ere then s else s.mark u).go (opB ere b).length).closed=s.closed:=fun u b=>by cases ere<;>exact⟨rfl,rfl⟩
  rw[Ze8]at h;split at h
  ·exact ZsS n _ _ _ _ rfl (show Lks s0 (.rep t 0 (-1)) (s.go 1)from Zte ht hk (by decide) rfl rfl) h
  ·split at h
   ·exact ZsS n _ _ _ _ rfl (show Lks s0 (.rep t 1 (-1)) ((if ere then s else s.mark [92,43]).go (opB ere 43).length)from Zte ht hk (by decide) (hgo _ _).1 (hgo _ _).2) h
   ·split at h
    ·exact ZsS n _ _ _ _ rfl (show Lks s0 (.rep t 0 1) ((if ere then s else s.mark [92,63]).go (opB ere 63).length)from Zte ht hk (by decide) (hgo _ _).1 (hgo _ _).2) h
    ·split at h
     ·cases hi:ZlJ l ere (s.at_+(opB ere 123).length)with
      |none=>rw[hi]at h;cases h
      |some y=>
       obtain⟨m,x,j⟩:=y;rw[hi]at h;exact ZsS n _ _ _ _ rfl (show Lks s0 (.rep t m x) (s.to j)from Zte ht hk (ZuD hi) rfl rfl) h
     ·injection h with h;injection h with h1 h2;subst h1;subst h2;exact⟨hk,ht⟩
def Zvx(f:RxS→Out Nd):Prop:=∀s t s',f s=.inr (t,s')→Lks s t s'
section
variable {ere:Bool} {l:List UInt8} {C:Option (RxS→Out Nd)} (hC:∀f,C=some f→Zvx f)
include hC
theorem Zuo{s s':RxS}{t:Nd}(h:ZcS prg ere l C s=.inr (t,s')):Lks s t s'∧t.atom=true:=by
 unfold ZcS at h;split at h
 ·unfold Zct at h;cases C with
  |none=>cases h
  |some f=>
   simp only at h;cases hf:f {s.go (opB ere 40).length with opened:=s.opened+1}with
   |inl e=>rw[hf]at h;cases h
   |inr z=>
    obtain⟨t1,s1⟩:=z;rw[hf]at h;simp only at h;have hk:=hC f rfl _ _ _ hf;split at h
    ·injection h with h;injection h with h1 h2;subst h1;subst h2;refine⟨?_,rfl⟩;unfold Lks at hk⊢;show Nd.look (.group ((s.opened+1:Nat):Int) t1) _ _=_;rw[Nd.look,if_pos (by simp)];have hk:t1.look ((s.opened+1:Nat):Int) (ci s.closed)=some ((s1.opened:Int),ci s1.closed):=hk;rw[show((s.opened+1:Nat):Int)=(s.opened:Int)+1 from by omega]at hk;rw[hk];show some (_,ci s1.closed++[_])=some (_,ci (s1.closed++[s.opened+1]));rw[ZvW];rfl
    ·cases h
 ·split at h
  ·cases h
  ·split at h
   ·cases hp:prs l (s.at_+1)with
    |inl z=>rw[hp]at h;cases h
    |inr y=>
     rw[hp]at h;injection h with h;injection h with h2 h3;subst h2;subst h3;exact⟨rfl,rfl⟩
   ·split at h
    ·injection h with h;injection h with h2 h3;subst h2;subst h3;exact⟨rfl,rfl⟩
    ·split at h
     ·cases h
     ·split at h
      ·cases h
      ·injection h with h;injection h with h2 h3;subst h2;subst h3;exact⟨rfl,rfl⟩
      ·next b r e=>
       unfold escD at h;split at h
       ·split at h
        ·next hc=>
         injection h with h;injection h with h2 h3;subst h2;subst h3;refine⟨?_,rfl⟩;show Nd.look (.back _) _ _=_;rw[Nd.look,ZvX,if_pos hc];cases ere<;>rfl
        ·cases h
       ·split at h
        ·cases h
        ·next c m _=>
         injection h with h;injection h with h2 h3;subst h2;subst h3;refine⟨?_,rfl⟩;show some _=some _;cases m<;>rfl
theorem Ztf{inner:Bool}{s0:RxS}:∀(n:Nat) (first front:Bool) (s:RxS) (ps:List Nd) (t:Nd) (s':RxS),Zeq ps→Zum s0 ps s→brD prg ere l C inner n first front s ps=.inr (t,s')→Lks s0 t s'∧t.brn
 |0,first,front,s,ps,t,s',hu,hk,h=>by
  rw[brD]at h;injection h with h;injection h with h1 h2;subst h1;subst h2;exact⟨joined_look hu hk,joined_brn hu⟩
 |n+1,first,front,s,ps,t,s',hu,hk,h=>by
  rw[brD]at h;split at h
  ·injection h with h;injection h with h1 h2;subst h1;subst h2;exact⟨joined_look hu hk,joined_brn hu⟩
  ·split at h
   ·exact Ztf n _ _ _ _ _ _ (hu.snoc rfl) (show Zum s0 (ps++[.start]) (s.go 1)from hk.snoc (t:=.start) rfl) h
   ·split at h
    ·exact Ztf n _ _ _ _ _ _ (hu.snoc rfl) (show Zum s0 (ps++[.fin]) (s.go 1)from hk.snoc (t:=.fin) rfl) h
    ·split at h
     ·cases h
     ·split at h
      ·cases h
      ·next t1 s1 e1=>
       split at h
       ·cases h
       ·next t2 s2 e2=>
        obtain⟨a1,a2⟩:=Zuo hC e1;obtain⟨b1,b2⟩:=ZsS _ _ _ _ _ a2 a1 e2;exact Ztf n _ _ _ _ _ _ (hu.snoc (ZtH b2)) (hk.snoc b1) h
theorem Zs8{inner:Bool}{s s':RxS}{t:Nd}(h:Zb7 prg ere l C inner s=.inr (t,s')):Lks s t s'∧t.brn:=
 Ztf hC _ _ _ _ _ _ _ (fun x hx=>by cases hx) (by unfold Zum;rw[Nd.looks]) h
theorem Ztr{inner:Bool}{s0:RxS}:∀(n:Nat) (s:RxS) (ts:List Nd) (t:Nd) (s':RxS),Zn3 ts→Zum s0 ts s→Zar prg ere l C inner n s ts=.inr (t,s')→Lks s0 t s'
 |0,s,ts,t,s',hu,hk,h=>by
  rw[Zar]at h;injection h with h;injection h with h1 h2;subst h1;subst h2;exact chosen_look hu hk
 |n+1,s,ts,t,s',hu,hk,h=>by
  rw[Zar]at h;split at h
  ·split at h
   ·cases h
   ·next t1 s1 e1=>
    obtain⟨a1,a2⟩:=Zs8 hC e1;have a1:Lks s t1 s1:=by
     unfold Lks at a1⊢;cases ere<;>exact a1
    exact Ztr n _ _ _ _ (hu.snoc a2) (hk.snoc a1) h
  ·injection h with h;injection h with h1 h2;subst h1;subst h2;exact chosen_look hu hk
theorem choiceD_look{inner:Bool}:Zvx (choiceD prg ere l C inner):=by
 intro s t s' h;unfold choiceD at h;split at h
 ·cases h
 ·next t1 s1 e1=>
  obtain⟨a1,a2⟩:=Zs8 hC e1;exact Ztr hC _ _ _ _ _ (fun x hx=>by rw[List.mem_singleton.1 hx];exact a2) (show Nd.looks [t1] _ _=_ by rw[looks_one];exact a1) h
end
theorem chD_look{ere:Bool}{l:List UInt8}:∀n,Zvx (chD prg ere l n)
 |0=>by rw[chD];exact choiceD_look (fun f hf=>by cases hf)
 |n+1=>by rw[chD];exact choiceD_look (fun f hf=>by injection hf with hf;subst hf;exact chD_look n)
theorem parseD_right{ere:Bool}{l:List UInt8}{t:Nd}{s:RxS}(h:Zac prg ere l=.inr (t,s)):t.right=true:=by
 unfold Zac at h;split at h
 ·cases h
 ·have:=chD_look 12 _ _ _ h;unfold Nd.right;have e:t.look 0 []=some ((s.opened:Int),ci s.closed):=this;rw[e];rfl
theorem Zz3:∃s,Zac prg true [97,124,40,98,41,43]=.inr (.alt [.one (spn 97 97),.rep (.group 1 (.one (spn 98 98))) 1 (-1)],s):=⟨⟨6,1,[1],[]⟩,by kernel_rfl⟩
theorem Zz4:Zac prg true [42,97]=.inl (10,0):=by kernel_rfl
theorem awake5_any(w:World)(hE:Env w):Calls Tryz.prog 11 #[] w fun e w'=>e=.returned (.bool true)∧Fr nob w w':=by
 obtain⟨s1,p1⟩:=Zz3;have P1:=hid (Zyt [97,124,40,98,41,43] w (by decide) hE);rw[p1]at P1;have HE:=hid hE;clear p1 hE;go_enter Tryz.func11,Tryz.ntmps11;go_wp2_with fail;refine P1.out.mono ?_;rintro e w1 ⟨f1,r,mv,rfl,rn,ma⟩;obtain⟨u,hu,sn⟩:=ZjL.1 rn;obtain⟨a,c,hs⟩:=sn.shape;subst hs;subst hu;obtain⟨am,cm,hm⟩:=Zb ma;subst hm;have i:=hid rn;have F1:=hid f1;clear rn f1 ma sn;have P2:=hid (fun(w':World) (f:Fr nob w1 w')=>Zyt [42,97] w' (by decide) ((HE.out.on F1.out).on f));rw[Zz4]at P2;have d:=newAt0 w1 (.cells #[.slice a 2 c] 86);have g:=hid d;clear d;go_wp2_with fail;refine(P2.out _ ((Fr.refl nob w1).alloc _)).mono ?_;rintro e w2 ⟨f2,rfl⟩;have b:=f2.heap g.out (fun x=>x);have k0:=cell_at (j:=0) (v:=.slice a 2 c) b rfl;have F2:=hid (((Fr.refl nob w1).alloc (.cells #[.slice a 2 c] 86)).trans' f2);have HB:=hid (fun(w':World) (h:RN nob w' (.alt [.one (spn 97 97),.rep (.group 1 (.one (spn 98 98))) 1 (-1)]) (.iface 86 (.agg #[.slice a 2 c])))=>Zzi 3000000 _ _ w' (by simp[Nd.size,Nd.sizes]) (by simp[Nd.size,Nd.sizes]) h)
 rw[show Nd.groups (.alt [.one (spn 97 97),.rep (.group 1 (.one (spn 98 98))) 1 (-1)])=1 from rfl]at HB;clear b f2;go_wp2_with fail;refine(HB.out _ (i.out.on F2.out)).mono ?_;rintro e w3 ⟨rfl,f3⟩;have F3:=hid f3;clear f3;go_wp2;go_ret;exact⟨rfl,(F1.out.trans' F2.out).trans' F3.out⟩
end Go.Proofs.YtgllcniibbaoaaaGreatDoor
