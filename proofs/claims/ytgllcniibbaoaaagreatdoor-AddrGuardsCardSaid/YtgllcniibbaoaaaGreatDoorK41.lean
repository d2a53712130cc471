/- Lemmas of this claim. -/
import Derived.Test.YtgllcniibbaoaaaGreatDoorK40
set_option linter.all false
set_option maxRecDepth 100000
set_option maxHeartbeats 24000000
namespace Go.Proofs.YtgllcniibbaoaaaGreatDoor
open Go.Lib (hid)
open Go.RowKit
def PA(a:AV)(z:Int)(p:Nat)(ms:List (Nat×List UInt8))(w:World)(e:Ending)(w':World):Prop:=Fr nob w w'∧∃v mv,e=.returned (.tuple #[v,mv,.int .i64 (p:Nat),.int .i64 z])∧ZkS nob w' a v∧OwM w' ms mv
def PX(a:AV)(z:Int)(p:Nat)(ms:List (Nat×List UInt8))(w:World)(e:Ending)(w':World):Prop:=Fr nob w w'∧∃v mv,e=.returned (.tuple #[v,.agg (xC mv (p:Nat) z)])∧ZBF nob w' a v∧MS w' ms mv
theorem ZBF.any{S:Nat→Prop}{w:World}{a:AV}{v:Value}(h:ZBF S w a v):ZBF nob w a v:=by
 obtain⟨kd,s,ua,m,uc,mn,mx,nu,e,h1,h2⟩:=h;exact⟨kd,s,ua,m,uc,mn,mx,nu,e,RT.keep (Fr.refl nob w) (fun _ _ x=>x.elim) (fun _ _ x=>x.elim) _ _ h1,h2⟩
theorem ZBK(w:World):ZkS nob w AV.zero (.agg zA):=⟨.nilIface,rfl,by rw[show AV.zero.tree=.nil from rfl,RN]⟩
theorem ZBL(w:World):ZBF nob w AV.zero (.agg ZA5):=ZBc nob w 0 0 [] (by decide)
section
attribute [-go_sem] storeVar
theorem ZBU(l:List UInt8)(k:Int)(x sec:Bool)(w:World)(hl:l.length≤99000)(hk:k<0∨(l.length:Int)<k):
 Calls Tryz.prog 21 #[.string ⟨l.toArray⟩,.int .i64 k,.bool x,.bool sec] w fun e w'=>e=.returned (.tuple #[.agg zA,.slice none 0 0,.int .i64 0,.int .i64 1])∧Fr nob w w':=by
 have L0:=hid ((LB.nil w).push zA 45 _ rfl);have hi:(Tryz.prog.info? 45).map (·.size)=some 4:=by kernel_rfl
 have HI:=hid hi;have h3:=(by omega:k<0∨(¬k<0∧(l.length:Int)<k));clear hi hk;rcases h3 with h|⟨h,h'⟩
 all_goals
  go_enter Tryz.func21,Tryz.ntmps21;go_wp2_with(refine L0.out.sto nob 0 rfl rfl _ _ rfl rfl rfl HI.out rfl (by simp[Value.oneCell']) ?_;intro w7 l7 z1 z2;have L7:=hid l7;clear l7 z1 z2);exact bodyPost_ret (ZA2 rfl rfl (L7.out.get 0 rfl)) rfl ⟨rfl,L7.out.fr⟩
end
theorem regexD_nd{x:Bool}{l:List UInt8}{d:UInt8}{s s':AdS}{a:AV}(h:ZaE x l d s=.inr (a,s')):a.tree.size≤600:=by
 unfold ZaE at h;split at h
 ·cases h
 ·split at h
  ·cases h
  ·split at h
   ·cases h
   ·next t r hp=>injection h with h;injection h with h1 h2;subst h1;exact(parseD_size hp).1
theorem addrD_nd{x:Bool}{l:List UInt8}{sec:Bool}{s s':AdS}{a:AV}(h:addrD x l sec s=.inr (a,s')):a.tree.size≤600:=by
 by_cases h3:a.kind=3
 ·unfold addrD at h;split at h
  ·rw[ZA9 h]at h3;cases h3
  ·split at h
   ·injection h with h;injection h with h1 h2;subst h1;cases h3
   ·split at h
    ·exact regexD_nd h
    ·split at h
     ·split at h
      ·cases h
      ·exact regexD_nd h
     ·split at h
      ·rw[moreD_kind h]at h3;cases h3
      ·injection h with h;injection h with h1 h2;subst h1;cases h3
 ·rw[addrD_tree h h3];simp[Nd.size]
theorem addrD_size{x:Bool}{l:List UInt8}{sec:Bool}{k:Nat}{a:AV}{s:AdS}(hl:l.length≤99000)(hk:k≤l.length)(h:addrD x l sec ⟨k,[],0⟩=.inr (a,s)):a.tree.size≤3000000∧s.marks.length≤100000:=by
 have h2:=(Zam (s:=⟨k,[],0⟩) hk rfl h).mks;simp only[List.length_nil]at h2;have:=addrD_nd h;exact⟨by omega,by omega⟩
theorem ZBD(l:List UInt8)(k:Int)(x sec:Bool)(w:World)(hl:l.length≤300)(hE:Env w):∃(a:AV) (z:Int) (p:Nat) (ms:List (Nat×List UInt8)),a.tree.size≤3000000∧ms.length≤100000∧
 (∀w',Fr nob w w'→Calls Tryz.prog 21 #[.string ⟨l.toArray⟩,.int .i64 k,.bool x,.bool sec] w' (PA a z p ms w'))∧
 (∀w',Calls Tryz.prog 22 #[.string ⟨l.toArray⟩,.int .i64 k,.bool x,.bool sec] w' (PX a z p ms w')):=by
 by_cases hk:k<0∨(l.length:Int)<k
 ·refine⟨AV.zero,1,0,[],by decide,by decide,fun w' _=>(ZBU l k x sec w' (by omega) hk).mono ?_,fun w'=>(ZBJ l k x sec w' (by omega) hk).mono ?_⟩
  ·rintro e w2 ⟨rfl,f⟩;exact⟨f,_,_,rfl,ZBK w2,World.ownsRow_nil _ _ _ _⟩
  ·rintro e w2 ⟨rfl,f⟩;exact⟨f,_,_,rfl,ZBL w2,MS.nil w2⟩
 ·obtain⟨n,rfl⟩:∃n:Nat,(n:Int)=k:=⟨k.toNat,by omega⟩;have hn:n≤l.length:=by omega
  have h1:=fun w' (f:Fr nob w w')=>ZBt l n x sec w' (by omega) hn (hE.on f);have h2:=fun w'=>ZBj l n x sec nob w' (fun _ h=>h.elim) (by omega) hn;cases hR:addrD x l sec ⟨n,[],0⟩with
  |inl y=>
   obtain⟨z,p⟩:=y;rw[hR]at h1;simp only[hR]at h2;refine⟨AV.zero,z,p,[],by decide,by decide,fun w' f=>(h1 w' f).mono ?_,fun w'=>(h2 w').mono ?_⟩
   ·rintro e w2 ⟨f,rfl⟩;exact⟨f,_,_,rfl,ZBK w2,World.ownsRow_nil _ _ _ _⟩
   ·rintro e w2 ⟨f,rfl,_⟩;exact⟨f,_,_,rfl,ZBL w2,MS.nil w2⟩
  |inr y=>
   obtain⟨a,s⟩:=y;rw[hR]at h1;simp only[hR]at h2;obtain⟨z1,z2⟩:=addrD_size (by omega) hn hR;refine⟨a,0,s.at_,s.marks,z1,z2,fun w' f=>(h1 w' f).mono ?_,fun w'=>(h2 w').mono ?_⟩
   ·rintro e w2 ⟨f,v,mv,rfl,hv,hm⟩;exact⟨f,v,mv,rfl,hv,hm⟩
   ·rintro e w2 ⟨f,v,mv,rfl,hv,hm⟩;exact⟨f,v,mv,rfl,hv.any,hm.ms⟩
theorem ZBV{H:Type}{enc:TypeId×Value→H}{P:Program}{e t:TypeId}{w w':World}{r:Reach}{b base:Nat}{spare:Nat→Bool}{held:Bool}{v:Value}{d:DataW H}{p:List MemPlace}
 (ht:P.underlying t=some (.array 2 e)) (he:P.underlying e=some .bool) (hc:P.cellsOf e=1) (hct:P.cellsOf t=2) (hv:Value.okWide P w r b t v) (h:DataW.Trod enc P w' base spare held t v d p):
 ∃x y:Bool,v=.agg #[.bool x,.bool y]:=by
 obtain⟨cs,rfl,f⟩:=ZBf ht hv;obtain⟨c,hf⟩:=h;obtain⟨xs,m,_,_,hl,hn,hx⟩:=DataW.trod_array ht hf;rw[hc]at hx;obtain⟨y0,y1,rfl⟩:=ZBE hn;have a:cs.toList.length=2:=(by have:(Value.agg cs).cells.toList.length=2:=(by rw[hl,hct]);exact this)
 match hcs:cs.toList,a with
 |[u,v],_=>
  have h0:=hx 0 (by omega);have h1:=hx 1 (by omega);have e0:(Value.agg cs).cells.toList=[u,v]:=hcs;simp only[e0,Nat.zero_mul,Nat.one_mul,List.drop_zero,List.drop_succ_cons,List.take_succ_cons,List.take_zero,List.getElem?_cons_zero,List.getElem?_cons_succ]at h0 h1;obtain⟨x,a0,_⟩:=DataW.trod_bool he h0;obtain⟨y,a1,_⟩:=DataW.trod_bool he h1;simp at a0 a1;refine⟨x,y,?_⟩;have:cs=[u,v].toArray:=by rw[←hcs]
  rw[this,a0,a1]
end Go.Proofs.YtgllcniibbaoaaaGreatDoor
