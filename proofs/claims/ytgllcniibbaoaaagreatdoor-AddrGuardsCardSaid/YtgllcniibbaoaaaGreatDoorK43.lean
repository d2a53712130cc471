/- Lemmas of this claim. -/
import Derived.Test.YtgllcniibbaoaaaGreatDoorK41
import Derived.Test.YtgllcniibbaoaaaGreatDoorK42
set_option linter.all false
set_option maxRecDepth 100000
set_option maxHeartbeats 24000000
namespace Go.Proofs.YtgllcniibbaoaaaGreatDoor
open Go.Lib (hid)
open Go.RowKit
def PG(g:GV)(z:Int)(p:Nat)(ms:List (Nat×List UInt8))(w:World)(e:Ending)(w':World):Prop:=Fr nob w w'∧∃v mv,e=.returned (.tuple #[v,mv,.int .i64 (p:Nat),.int .i64 z])∧Zni nob w' g v∧OwM w' ms mv
def PXG(g:GV)(z:Int)(p:Nat)(ms:List (Nat×List UInt8))(w:World)(e:Ending)(w':World):Prop:=Fr nob w w'∧∃v mv,e=.returned (.tuple #[v,.agg (xC mv (p:Nat) z)])∧ZB3 nob w' g v∧MS w' ms mv
abbrev GV.zero:GV:=⟨AV.zero,AV.zero,false⟩
theorem ZBM(w:World):Zni nob w GV.zero (.agg zG):=⟨.nilIface,.nilIface,rfl,by rw[show GV.zero.a.tree=.nil from rfl,RN],by rw[show GV.zero.b.tree=.nil from rfl,RN]⟩
theorem ZBN(w:World):ZB3 nob w GV.zero (.agg ZA4):=⟨TC.z,TC.z,rfl,ZyP nob w,ZyP nob w,fun _=>rfl,fun _=>rfl⟩
section
attribute [-go_sem] storeVar
theorem ZBX(l:List UInt8)(k:Int)(x:Bool)(w:World)(hl:l.length≤99000)(hk:k<0∨(l.length:Int)<k):
 Calls Tryz.prog 18 #[.string ⟨l.toArray⟩,.int .i64 k,.bool x] w fun e w'=>e=.returned (.tuple #[.agg zG,.slice none 0 0,.int .i64 0,.int .i64 1])∧Fr nob w w':=by
 have L0:=hid ((LB.nil w).push zG 47 _ rfl);have hi:(Tryz.prog.info? 47).map (·.size)=some 9:=by kernel_rfl
 have HI:=hid hi;have h3:=(by omega:k<0∨(¬k<0∧(l.length:Int)<k));clear hi hk;rcases h3 with h|⟨h,h'⟩
 all_goals
  go_enter Tryz.func18,Tryz.ntmps18;go_wp2_with(refine L0.out.sto nob 0 rfl rfl _ _ rfl rfl rfl HI.out rfl (by simp[Value.oneCell']) ?_;intro w7 l7 z1 z2;have L7:=hid l7;clear l7 z1 z2);exact bodyPost_ret (ZbB rfl rfl (L7.out.get 0 rfl)) rfl ⟨rfl,L7.out.fr⟩
end
theorem ZBY(l:List UInt8)(k:Int)(x:Bool)(w:World)(hl:l.length≤99000)(hk:k<0∨(l.length:Int)<k):
 Calls Tryz.prog 19 #[.string ⟨l.toArray⟩,.int .i64 k,.bool x] w fun e w'=>e=.returned (.tuple #[.agg ZA4,.agg (xC (.slice none 0 0) 0 1)])∧Fr nob w w':=ZBl l k x w hl hk
theorem ZBm{l:List UInt8}{a b:AV}{q s:AdS}{g:GV}(h:ZgT l a b q=.inr (g,s)):g.a=a∧g.b=b∧s.marks=q.marks:=by
 unfold ZgT at h;split at h
 ·split at h
  ·cases h
  ·injection h with h;injection h with h1 h2;subst h1;subst h2;exact⟨rfl,rfl,rfl⟩
 ·injection h with h;injection h with h1 h2;subst h1;subst h2;exact⟨rfl,rfl,rfl⟩
theorem ZBn{x:Bool}{l:List UInt8}{k:Nat}{g:GV}{s:AdS}(hl:l.length≤300)(hk:k≤l.length)(h:ZX x l ⟨k,[],0⟩=.inr (g,s)):g.a.tree.size≤3000000∧g.b.tree.size≤3000000∧s.marks.length≤100000:=by
 cases hR:addrD x l false ⟨k,[],0⟩with
 |inl z=>rw[guardD_bad hR]at h;cases h
 |inr y=>
  obtain⟨a,s1⟩:=y;have f1:=Zam (s:=⟨k,[],0⟩) hk rfl hR;have n1:=addrD_nd hR;have m1:=f1.mks;simp only[List.length_nil]at m1;by_cases hc:a.kind≠0∧byt l (bhd l [32,9] s1.at_)=44
  ·rw[ZBb hR hc.1 hc.2]at h;split at h
   ·cases h
   ·next b s2 hb=>
    split at h
    ·cases h
    ·obtain⟨e1,e2,e3⟩:=ZBm h;have f2:=Zam (s:=⟨_,[],0⟩) (bhd_le _ _ _) rfl hb;have n2:=addrD_nd hb;have m2:=f2.mks;simp only[List.length_nil]at m2;rw[e1,e2,e3,List.length_append];exact⟨by omega,by omega,by omega⟩
  ·rw[ZBa hR f1.ok (by
    by_cases h0:a.kind=0
    ·exact .inl h0
    ·exact .inr fun h4=>hc ⟨h0,h4⟩) f1.le]at h
   obtain⟨e1,e2,e3⟩:=ZBm h;rw[e1,e2,e3];exact⟨by omega,by decide,by show s1.marks.length≤_;omega⟩
theorem ZBu(l:List UInt8)(k:Int)(x:Bool)(w:World)(hl:l.length≤300)(hE:Env w):∃(g:GV) (z:Int) (p:Nat) (ms:List (Nat×List UInt8)),g.a.tree.size≤3000000∧g.b.tree.size≤3000000∧ms.length≤100000∧
 (∀w',Fr nob w w'→Calls Tryz.prog 18 #[.string ⟨l.toArray⟩,.int .i64 k,.bool x] w' (PG g z p ms w'))∧
 (∀w',Calls Tryz.prog 19 #[.string ⟨l.toArray⟩,.int .i64 k,.bool x] w' (PXG g z p ms w')):=by
 by_cases hk:k<0∨(l.length:Int)<k
 ·refine⟨GV.zero,1,0,[],by decide,by decide,by decide,fun w' _=>(ZBX l k x w' (by omega) hk).mono ?_,fun w'=>(ZBY l k x w' (by omega) hk).mono ?_⟩
  ·rintro e w2 ⟨rfl,f⟩;exact⟨f,_,_,rfl,ZBM w2,World.ownsRow_nil _ _ _ _⟩
  ·rintro e w2 ⟨rfl,f⟩;exact⟨f,_,_,rfl,ZBN w2,MS.nil w2⟩
 ·obtain⟨n,rfl⟩:∃n:Nat,(n:Int)=k:=⟨k.toNat,by omega⟩;have hn:n≤l.length:=by omega
  have h1:=fun w' (f:Fr nob w w')=>Z4 l n x w' (by omega) hn (hE.on f);have h2:=fun w'=>ZBW l n x nob w' (fun _ h=>h.elim) (by omega) hn;cases hR:ZX x l ⟨n,[],0⟩with
  |inl y=>
   obtain⟨z,p⟩:=y;rw[hR]at h1;simp only[hR]at h2;refine⟨GV.zero,z,p,[],by decide,by decide,by decide,fun w' f=>(h1 w' f).mono ?_,fun w'=>(h2 w').mono ?_⟩
   ·rintro e w2 ⟨f,rfl⟩;exact⟨f,_,_,rfl,ZBM w2,World.ownsRow_nil _ _ _ _⟩
   ·rintro e w2 ⟨f,rfl,_⟩;exact⟨f,_,_,rfl,ZBN w2,MS.nil w2⟩
  |inr y=>
   obtain⟨g,s⟩:=y;rw[hR]at h1;simp only[hR]at h2;obtain⟨z1,z2,z3⟩:=ZBn hl hn hR;refine⟨g,0,s.at_,s.marks,z1,z2,z3,fun w' f=>(h1 w' f).mono ?_,fun w'=>(h2 w').mono ?_⟩
   ·rintro e w2 ⟨f,v,mv,rfl,hv,hm⟩;exact⟨f,v,mv,rfl,hv,hm⟩
   ·rintro e w2 ⟨f,v,mv,rfl,hv,hm⟩;exact⟨f,v,mv,rfl,hv,hm.ms⟩
end Go.Proofs.YtgllcniibbaoaaaGreatDoor
