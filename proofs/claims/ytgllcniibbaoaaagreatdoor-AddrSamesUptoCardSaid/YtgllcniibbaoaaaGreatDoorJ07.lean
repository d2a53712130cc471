/- Lemmas of this claim. -/
import Derived.Test.YtgllcniibbaoaaaGreatDoorJ05
import Derived.Test.YtgllcniibbaoaaaGreatDoorJ06
set_option linter.all false
set_option maxRecDepth 100000
set_option maxHeartbeats 24000000
namespace Go.Proofs.YtgllcniibbaoaaaGreatDoor
open Go.Proofs.Tryz
open Go.Lib (hid)
open Go.RowKit
def Rd(w:World)(b:Nat)(l:List UInt8)(at_ wr pl:Int):Prop:=w.heap[b]? =some (.cells #[.string ⟨l.toArray⟩,.int .i64 at_,.int .i64 wr,.int .i64 pl] 217 (0,0))
theorem Rd.on{w w':World}{b:Nat}{l:List UInt8}{a r p:Int}(h:Rd w b l a r p)(f:Fr nob w w'):Rd w' b l a r p:=f.heap h (fun x=>x)
theorem ZL(l p:List UInt8)(w:World)(hs:l.length≤9223372036854775807)(hp:p.length≤9223372036854775807):
 Calls prog 87 #[.string ⟨l.toArray⟩,.string ⟨p.toArray⟩] w fun e w'=>e=.returned (.bool (p.isPrefixOf l))∧w=w':=by
 have HS:=hid hs;have HP:=hid hp;have hx:=Zm8 l 0 p.length;simp only[List.drop_zero,Nat.sub_zero]at hx;go_enter func87,ntmps87;go_wp2
 all_goals go_ret
 ·exact⟨ret_bool (ZdX (by assumption)),rfl⟩
 ·exact⟨ret_bool (ZdY (by assumption)),rfl⟩
theorem fail_ok(b:Nat)(l:List UInt8)(a p e q:Int)(w:World)(h:Rd w b l a 0 p):
 Calls prog 163 #[.pointer (some ⟨b,0,none⟩),.int .i64 e,.int .i64 q] w fun r w'=>r=.returned (.tuple #[])∧Rd w' b l a e q∧Fr (fun k=>k=b) w w':=by
 obtain⟨⟨c0,c1,c2,c3⟩,d0,d1,d2,d3⟩:=Zl h _ (Fr.refl _ _);have H:=hid h;clear h;go_enter func163,ntmps163;go_wp2
 go_end0
 have h1:=Za H.out 2 (.int .i64 e);exact⟨rfl,Za h1 3 (.int .i64 q),((Fr.refl (fun k=>k=b) w).setCell (p:=⟨b,2,none⟩) (fun _=>rfl) _).setCell (p:=⟨b,3,none⟩) (fun _=>rfl) _⟩
theorem Zl5(b:Nat)(l:List UInt8)(a r p e q:Int)(w:World)(hr:r≠0)(h:Rd w b l a r p):
 Calls prog 163 #[.pointer (some ⟨b,0,none⟩),.int .i64 e,.int .i64 q] w fun x w'=>x=.returned (.tuple #[])∧w=w':=by
 obtain⟨⟨c0,c1,c2,c3⟩,d0,d1,d2,d3⟩:=Zl h _ (Fr.refl _ _);have c:(r==0)=false:=by simpa using hr
 clear h hr;go_enter func163,ntmps163;go_wp2
 go_end0
 exact⟨rfl,rfl⟩
theorem Zbr(b:Nat)(l t:List UInt8)(a:Nat)(r p:Int)(w:World)(hl:l.length≤1000000)(ht:t.length≤1000000)(ha:a≤l.length)(h:Rd w b l a r p):
 Calls prog 139 #[.pointer (some ⟨b,0,none⟩),.string ⟨t.toArray⟩] w fun x w'=>x=.returned (.bool (t.isPrefixOf (l.drop a)))∧Fr nob w w':=by
 have rr:=Zl h;clear h;have d:(a:Int)≤l.length:=by omega
 have hP:=fun w:World=>ZL (l.drop a) t w (by simp;omega) (by omega);have c:=hid hP;clear hP;go_enter func139,ntmps139;go_wp2_with fail;refine region_fr 10 (by kernel_rfl) (by kernel_rfl) ?_;simp only[List.take_succ_cons,List.take_zero,List.drop_succ_cons,List.drop_zero]
 repeat(quiet_step (fail))
 refine wpQuiet_nil ?_;intro wC fC;go_wp2_with fail;refine(c.out _).mono ?_;rintro e w2 ⟨rfl,rfl⟩;go_wp2;go_ret;exact⟨rfl,fC⟩
abbrev itV(s:S4)(e:Bool):Value:=.agg #[.int .u64 s.a,.int .u64 s.b,.int .u64 s.c,.int .u64 s.d,.bool e]
def ZnJ(s:S4)(w:World)(e:Ending)(w':World):Prop:=∃d b,e=.returned (.int .u8 (d:Nat))∧Zbi s d b∧d<256∧Fr nob w w'
theorem Zg6(s:S4)(e:Bool)(w:World)(hs:s.fit)(hT:Tab w):
 Calls prog 162 #[itV s e] w (ZnJ s w):=by
 have HT:=hid (hT.on ((Fr.refl nob w).alloc (.cells #[.int .u64 s.a,.int .u64 s.b,.int .u64 s.c,.int .u64 s.d,.bool e] 241)));clear hT;go_enter func162,ntmps162;go_wp2_with fail;refine(least_any s _ hs HT.out).mono ?_;rintro x w2 ⟨d,b,rfl,hl,f⟩;have HL:=hid hl;have hd:d<256:=by rcases hl with⟨_,rfl,_⟩|⟨_,h,_⟩<;>omega
 clear hl;go_wp2;go_ret;exact⟨d,b,rfl,HL.out,hd,((Fr.refl _ _).alloc _).trans' f⟩
end Go.Proofs.YtgllcniibbaoaaaGreatDoor
