/- Lemmas of this claim. -/
import Derived.Test.YtkfddjopbocpkaaGreatDoorN29
set_option linter.unusedVariables false
set_option linter.unusedSimpArgs false
set_option maxRecDepth 100000
set_option maxHeartbeats 4000000
namespace Go.Proofs.YtkfddjopbocpkaaGreatDoor
open Go.Lib (hid)
open Go.RowKit
abbrev cmd20(p:Nat)(g0 g1 g2 g3 g4 g5 g6 g7 g8:Value)(n:UInt8)(arg:List UInt8)(s:SV)(u pv:Value)(tb:List UInt8):Array Value:=
 #[.int .i64 (p:Nat),g0,g1,g2,g3,g4,g5,g6,g7,g8,.int .u8 (n.toNat:Int),.string ⟨arg.toArray⟩,.string ⟨s.text.toArray⟩,u,pv,.int .i64 s.nth,.bool s.all,.bool s.print,.string ⟨s.file.toArray⟩,.string ⟨tb.toArray⟩]
theorem Zw{w:World}{b:Nat}{v0 v1 v2 v3 v4 v5 v6 v7 v8 v9 v10 v11 v12 v13 v14 v15 v16 v17 v18 v19:Value}{T:TypeId}(h:w.heap[b]? =some (.cells #[v0,v1,v2,v3,v4,v5,v6,v7,v8,v9,v10,v11,v12,v13,v14,v15,v16,v17,v18,v19] T (0,0))):∀w',Fr nob w w'→
 (w'.cell? ⟨b,0,none⟩=some v0∧w'.cell? ⟨b,10,none⟩=some v10∧w'.cell? ⟨b,11,none⟩=some v11∧w'.cell? ⟨b,12,none⟩=some v12∧w'.cell? ⟨b,13,none⟩=some v13∧w'.cell? ⟨b,14,none⟩=some v14∧w'.cell? ⟨b,15,none⟩=some v15∧w'.cell? ⟨b,16,none⟩=some v16∧w'.cell? ⟨b,17,none⟩=some v17∧w'.cell? ⟨b,18,none⟩=some v18∧w'.cell? ⟨b,19,none⟩=some v19)∧(w'.frozen? ⟨b,11,none⟩=false∧w'.frozen? ⟨b,12,none⟩=false∧w'.frozen? ⟨b,13,none⟩=false∧w'.frozen? ⟨b,14,none⟩=false∧w'.frozen? ⟨b,15,none⟩=false∧w'.frozen? ⟨b,16,none⟩=false∧w'.frozen? ⟨b,17,none⟩=false∧w'.frozen? ⟨b,18,none⟩=false∧w'.frozen? ⟨b,19,none⟩=false):=fun _ f=>by
 have h':=f.heap h (fun x=>x);exact⟨⟨cell_at h' rfl,cell_at h' rfl,cell_at h' rfl,cell_at h' rfl,cell_at h' rfl,cell_at h' rfl,cell_at h' rfl,cell_at h' rfl,cell_at h' rfl,cell_at h' rfl,cell_at h' rfl⟩,unfrozen_at h' _,unfrozen_at h' _,unfrozen_at h' _,unfrozen_at h' _,unfrozen_at h' _,unfrozen_at h' _,unfrozen_at h' _,unfrozen_at h' _,unfrozen_at h' _⟩
theorem ZbD{n:UInt8}{k:Nat}{hk:UInt8}(h:n≠hk)(he:hk.toNat=k:=by rfl):((n.toNat:Int)==(k:Int))=false:=by
 have:n.toNat≠k:=fun e=>h (UInt8.toNat_inj.1 (by omega));simp;omega
abbrev Zcw(w:World)(g:Nat)(x0 x1 x2 x3 x4 x5 x6:Value):World:=(((((((w.setCell ⟨g,12,none⟩ x0).setCell ⟨g,13,none⟩ x1).setCell ⟨g,14,none⟩ x2).setCell ⟨g,15,none⟩ x3).setCell ⟨g,16,none⟩ x4).setCell ⟨g,17,none⟩ x5).setCell ⟨g,18,none⟩ x6)
theorem Zcl(w:World)(g:Nat)(x0 x1 x2 x3 x4 x5 x6:Value):Fr (fun k=>k=g) w (Zcw w g x0 x1 x2 x3 x4 x5 x6):=by
 have h:∀(x:World) (j:Nat) (v:Value),Fr (fun k=>k=g) w x→Fr (fun k=>k=g) w (x.setCell ⟨g,j,none⟩ v):=fun x j v hx=>hx.setCell (p:=⟨g,j,none⟩) (fun _=>rfl) v;exact h _ _ _ (h _ _ _ (h _ _ _ (h _ _ _ (h _ _ _ (h _ _ _ (h _ _ _ (Fr.refl _ _)))))))
theorem ZbU{w:World}{g:Nat}{a0 a1 a2 a3 a4 a5 a6 a7 a8 a9 a10 a11 a12 a13 a14 a15 a16 a17 a18 a19:Value}{T:TypeId}(h:w.heap[g]? =some (.cells #[a0,a1,a2,a3,a4,a5,a6,a7,a8,a9,a10,a11,a12,a13,a14,a15,a16,a17,a18,a19] T (0,0)))(x0 x1 x2 x3 x4 x5 x6:Value):
 (Zcw w g x0 x1 x2 x3 x4 x5 x6).heap[g]? =some (.cells #[a0,a1,a2,a3,a4,a5,a6,a7,a8,a9,a10,a11,x0,x1,x2,x3,x4,x5,x6,a19] T (0,0)):=by
 have h0:=Za h 12 x0;have h1:=Za h0 13 x1;have h2:=Za h1 14 x2;have h3:=Za h2 15 x3;have h4:=Za h3 16 x4;have h5:=Za h4 17 x5;have h6:=Za h5 18 x6;simpa using h6
def Zbb(b g:Nat)(l:List UInt8)(x:Bool)(S O:Nat→Prop)(w:World)(p:Nat)(g0 g1 g2 g3 g4 g5 g6 g7 g8:Value)(n:UInt8)(R:Bool×CV×AdS)(r:Ending)(w':World):Prop:=
 ∃u pv S',r=.returned (.bool R.1)∧w'.heap[g]? =some (.cells (cmd20 p g0 g1 g2 g3 g4 g5 g6 g7 g8 n R.2.1.arg R.2.1.sub u pv R.2.1.table) 35 (0,0))∧RN (SO S' O) w' R.2.1.sub.tree u∧PrO (SO S' O) w' R.2.1.sub.parts pv∧CRd b l x R.2.2 S' w'∧Stp (GS S g) w (GS S' g) w'∧¬S' g
abbrev cv0(p:Nat)(gv:GV)(n:UInt8):CV:=⟨p,gv,n,[],SV.zero,[]⟩
section
set_option linter.unusedSectionVars false
variable (b g:Nat) (l:List UInt8) (x:BF) (S O:Nat→Prop) (p:Nat) (gv:GV) (g0 g1 g2 g3 g4 g5 g6 g7 g8:Value)
include x
theorem ZpR(s:AdS)(w:World)(hl:l.length≤99000)(ha:s.at_≤l.length)(hm:s.marks.length≤100000)(hS:∀k,S k→k<w.heap.size)(hO:∀k,O k→k<w.heap.size)(hgO:O g)(hgS:¬S g)(W0:World)(hE:Env W0)(hW:Fr nob W0 w)(hSW:∀k,S k→W0.heap.size≤k)(hg:w.heap[g]? =some (.cells (cmd20 p g0 g1 g2 g3 g4 g5 g6 g7 g8 123 [] SV.zero .nilIface (.slice none 0 0) []) 35 (0,0)))(h:CRd b l x s S w):
 Calls Tryz.prog 58 #[.pointer (some ⟨b,0,none⟩),.pointer (some ⟨g,0,none⟩)] w (Zbb b g l x S O w p g0 g1 g2 g3 g4 g5 g6 g7 g8 123 (ZsD x l (cv0 p gv 123) s)):=by
 rw[show ZsD x l (cv0 p gv 123) s=(false,cv0 p gv 123,s)from rfl];have rg:=Zw hg _ (Fr.refl _ _);have a:=lt_heap hg;have H:=hid h;have HG:=hid hg;go_enter Tryz.func58,Tryz.ntmps58;go_wp2;go_ret;exact⟨.nilIface,.slice none 0 0,S,rfl,HG.out,rfl,PrO.nil _ _,H.out,Stp.refl _ _,hgS⟩
theorem ZpS(s:AdS)(w:World)(hl:l.length≤99000)(ha:s.at_≤l.length)(hm:s.marks.length≤100000)(hS:∀k,S k→k<w.heap.size)(hO:∀k,O k→k<w.heap.size)(hgO:O g)(hgS:¬S g)(W0:World)(hE:Env W0)(hW:Fr nob W0 w)(hSW:∀k,S k→W0.heap.size≤k)(hg:w.heap[g]? =some (.cells (cmd20 p g0 g1 g2 g3 g4 g5 g6 g7 g8 125 [] SV.zero .nilIface (.slice none 0 0) []) 35 (0,0)))(h:CRd b l x s S w):
 Calls Tryz.prog 58 #[.pointer (some ⟨b,0,none⟩),.pointer (some ⟨g,0,none⟩)] w (Zbb b g l x S O w p g0 g1 g2 g3 g4 g5 g6 g7 g8 125 (ZsD x l (cv0 p gv 125) s)):=by
 rw[show ZsD x l (cv0 p gv 125) s=(false,cv0 p gv 125,s)from rfl];have rg:=Zw hg _ (Fr.refl _ _);have a:=lt_heap hg;have H:=hid h;have HG:=hid hg;go_enter Tryz.func58,Tryz.ntmps58;go_wp2;go_ret;exact⟨.nilIface,.slice none 0 0,S,rfl,HG.out,rfl,PrO.nil _ _,H.out,Stp.refl _ _,hgS⟩
theorem ZqF(s:AdS)(w:World)(hl:l.length≤99000)(ha:s.at_≤l.length)(hm:s.marks.length≤100000)(hS:∀k,S k→k<w.heap.size)(hO:∀k,O k→k<w.heap.size)(hgO:O g)(hgS:¬S g)(W0:World)(hE:Env W0)(hW:Fr nob W0 w)(hSW:∀k,S k→W0.heap.size≤k)(hg:w.heap[g]? =some (.cells (cmd20 p g0 g1 g2 g3 g4 g5 g6 g7 g8 58 [] SV.zero .nilIface (.slice none 0 0) []) 35 (0,0)))(h:CRd b l x s S w):
 Calls Tryz.prog 58 #[.pointer (some ⟨b,0,none⟩),.pointer (some ⟨g,0,none⟩)] w (Zbb b g l x S O w p g0 g1 g2 g3 g4 g5 g6 g7 g8 58 (ZsD x l (cv0 p gv 58) s)):=by
 rw[show ZsD x l (cv0 p gv 58) s=(false,{cv0 p gv 58 with arg:=(labelC l true s).1},(labelC l true s).2)from rfl];have rg:=Zw hg _ (Fr.refl _ _);have f:=lt_heap hg;have H:=hid h;have HG:=hid hg;have HC:=hid (ZdR b l x true s S w hl ha h);obtain⟨R,hR⟩:∃R,labelC l true s=R:=⟨_,rfl⟩;rw[hR]at HC⊢;obtain⟨ra,rs⟩:=R;clear hg h;go_enter Tryz.func58,Tryz.ntmps58;go_wp2_with fail;refine HC.out.mono ?_;rintro z w1 ⟨rfl,h1,a⟩;obtain⟨S',d⟩:∃S':Nat→Prop,S'=S:=⟨_,rfl⟩;rw[show CRd b l x rs S w1↔CRd b l x rs S' w1 by rw[d]]at h1;rw[show Stp S w S w1↔Stp S w S' w1 by rw[d]]at a;have c:¬S' g:=fun e=>hgS (a.old g f e);have g1:=a.fr.heap HG.out hgS;have m:=Zw g1 _ (Fr.refl _ _);have g2:=Za g1 11 (.string ⟨ra.toArray⟩);have h2:=h1.setg c 11 (.string ⟨ra.toArray⟩);have i:=(Stp.gs a f).trans (Stp.setg (S:=S') (g:=g) 11 (.string ⟨ra.toArray⟩));have G2:=hid g2;have H2:=hid h2;have j:=hid i
 clear g1 g2 h1 h2 a i rg;go_wp2;go_ret;exact⟨.nilIface,.slice none 0 0,S',rfl,G2.out,rfl,PrO.nil _ _,H2.out,j.out,c⟩
theorem ZqG(s:AdS)(w:World)(hl:l.length≤99000)(ha:s.at_≤l.length)(hm:s.marks.length≤100000)(hS:∀k,S k→k<w.heap.size)(hO:∀k,O k→k<w.heap.size)(hgO:O g)(hgS:¬S g)(W0:World)(hE:Env W0)(hW:Fr nob W0 w)(hSW:∀k,S k→W0.heap.size≤k)(hg:w.heap[g]? =some (.cells (cmd20 p g0 g1 g2 g3 g4 g5 g6 g7 g8 98 [] SV.zero .nilIface (.slice none 0 0) []) 35 (0,0)))(h:CRd b l x s S w):
 Calls Tryz.prog 58 #[.pointer (some ⟨b,0,none⟩),.pointer (some ⟨g,0,none⟩)] w (Zbb b g l x S O w p g0 g1 g2 g3 g4 g5 g6 g7 g8 98 (ZsD x l (cv0 p gv 98) s)):=by
 rw[show ZsD x l (cv0 p gv 98) s=(false,{cv0 p gv 98 with arg:=(labelC l false s).1},(labelC l false s).2)from rfl];have rg:=Zw hg _ (Fr.refl _ _);have f:=lt_heap hg;have H:=hid h;have HG:=hid hg;have HC:=hid (ZdR b l x false s S w hl ha h);obtain⟨R,hR⟩:∃R,labelC l false s=R:=⟨_,rfl⟩;rw[hR]at HC⊢;obtain⟨ra,rs⟩:=R;clear hg h;go_enter Tryz.func58,Tryz.ntmps58;go_wp2_with fail;refine HC.out.mono ?_;rintro z w1 ⟨rfl,h1,a⟩;obtain⟨S',d⟩:∃S':Nat→Prop,S'=S:=⟨_,rfl⟩;rw[show CRd b l x rs S w1↔CRd b l x rs S' w1 by rw[d]]at h1;rw[show Stp S w S w1↔Stp S w S' w1 by rw[d]]at a;have c:¬S' g:=fun e=>hgS (a.old g f e);have g1:=a.fr.heap HG.out hgS;have m:=Zw g1 _ (Fr.refl _ _);have g2:=Za g1 11 (.string ⟨ra.toArray⟩);have h2:=h1.setg c 11 (.string ⟨ra.toArray⟩);have i:=(Stp.gs a f).trans (Stp.setg (S:=S') (g:=g) 11 (.string ⟨ra.toArray⟩));have G2:=hid g2;have H2:=hid h2;have j:=hid i
 clear g1 g2 h1 h2 a i rg;go_wp2;go_ret;exact⟨.nilIface,.slice none 0 0,S',rfl,G2.out,rfl,PrO.nil _ _,H2.out,j.out,c⟩
theorem ZpT(s:AdS)(w:World)(hl:l.length≤99000)(ha:s.at_≤l.length)(hm:s.marks.length≤100000)(hS:∀k,S k→k<w.heap.size)(hO:∀k,O k→k<w.heap.size)(hgO:O g)(hgS:¬S g)(W0:World)(hE:Env W0)(hW:Fr nob W0 w)(hSW:∀k,S k→W0.heap.size≤k)(hg:w.heap[g]? =some (.cells (cmd20 p g0 g1 g2 g3 g4 g5 g6 g7 g8 116 [] SV.zero .nilIface (.slice none 0 0) []) 35 (0,0)))(h:CRd b l x s S w):
 Calls Tryz.prog 58 #[.pointer (some ⟨b,0,none⟩),.pointer (some ⟨g,0,none⟩)] w (Zbb b g l x S O w p g0 g1 g2 g3 g4 g5 g6 g7 g8 116 (ZsD x l (cv0 p gv 116) s)):=by
 rw[show ZsD x l (cv0 p gv 116) s=(false,{cv0 p gv 116 with arg:=(labelC l false s).1},(labelC l false s).2)from rfl];have rg:=Zw hg _ (Fr.refl _ _);have f:=lt_heap hg;have H:=hid h;have HG:=hid hg;have HC:=hid (ZdR b l x false s S w hl ha h);obtain⟨R,hR⟩:∃R,labelC l false s=R:=⟨_,rfl⟩;rw[hR]at HC⊢;obtain⟨ra,rs⟩:=R;clear hg h;go_enter Tryz.func58,Tryz.ntmps58;go_wp2_with fail;refine HC.out.mono ?_;rintro z w1 ⟨rfl,h1,a⟩;obtain⟨S',d⟩:∃S':Nat→Prop,S'=S:=⟨_,rfl⟩;rw[show CRd b l x rs S w1↔CRd b l x rs S' w1 by rw[d]]at h1;rw[show Stp S w S w1↔Stp S w S' w1 by rw[d]]at a;have c:¬S' g:=fun e=>hgS (a.old g f e);have g1:=a.fr.heap HG.out hgS;have m:=Zw g1 _ (Fr.refl _ _);have g2:=Za g1 11 (.string ⟨ra.toArray⟩);have h2:=h1.setg c 11 (.string ⟨ra.toArray⟩);have i:=(Stp.gs a f).trans (Stp.setg (S:=S') (g:=g) 11 (.string ⟨ra.toArray⟩));have G2:=hid g2;have H2:=hid h2;have j:=hid i
 clear g1 g2 h1 h2 a i rg;go_wp2;go_ret;exact⟨.nilIface,.slice none 0 0,S',rfl,G2.out,rfl,PrO.nil _ _,H2.out,j.out,c⟩
theorem ZqH(s:AdS)(w:World)(hl:l.length≤99000)(ha:s.at_≤l.length)(hm:s.marks.length≤100000)(hS:∀k,S k→k<w.heap.size)(hO:∀k,O k→k<w.heap.size)(hgO:O g)(hgS:¬S g)(W0:World)(hE:Env W0)(hW:Fr nob W0 w)(hSW:∀k,S k→W0.heap.size≤k)(hg:w.heap[g]? =some (.cells (cmd20 p g0 g1 g2 g3 g4 g5 g6 g7 g8 84 [] SV.zero .nilIface (.slice none 0 0) []) 35 (0,0)))(h:CRd b l x s S w):
 Calls Tryz.prog 58 #[.pointer (some ⟨b,0,none⟩),.pointer (some ⟨g,0,none⟩)] w (Zbb b g l x S O w p g0 g1 g2 g3 g4 g5 g6 g7 g8 84 (ZsD x l (cv0 p gv 84) s)):=by
 rw[show ZsD x l (cv0 p gv 84) s=(false,{cv0 p gv 84 with arg:=(labelC l false s).1},(labelC l false s).2)from rfl];have rg:=Zw hg _ (Fr.refl _ _);have f:=lt_heap hg;have H:=hid h;have HG:=hid hg;have HC:=hid (ZdR b l x false s S w hl ha h);obtain⟨R,hR⟩:∃R,labelC l false s=R:=⟨_,rfl⟩;rw[hR]at HC⊢;obtain⟨ra,rs⟩:=R;clear hg h;go_enter Tryz.func58,Tryz.ntmps58;go_wp2_with fail;refine HC.out.mono ?_;rintro z w1 ⟨rfl,h1,a⟩;obtain⟨S',d⟩:∃S':Nat→Prop,S'=S:=⟨_,rfl⟩;rw[show CRd b l x rs S w1↔CRd b l x rs S' w1 by rw[d]]at h1;rw[show Stp S w S w1↔Stp S w S' w1 by rw[d]]at a;have c:¬S' g:=fun e=>hgS (a.old g f e);have g1:=a.fr.heap HG.out hgS;have m:=Zw g1 _ (Fr.refl _ _);have g2:=Za g1 11 (.string ⟨ra.toArray⟩);have h2:=h1.setg c 11 (.string ⟨ra.toArray⟩);have i:=(Stp.gs a f).trans (Stp.setg (S:=S') (g:=g) 11 (.string ⟨ra.toArray⟩));have G2:=hid g2;have H2:=hid h2;have j:=hid i
 clear g1 g2 h1 h2 a i rg;go_wp2;go_ret;exact⟨.nilIface,.slice none 0 0,S',rfl,G2.out,rfl,PrO.nil _ _,H2.out,j.out,c⟩
theorem ZqI(s:AdS)(w:World)(hl:l.length≤99000)(ha:s.at_≤l.length)(hm:s.marks.length≤100000)(hS:∀k,S k→k<w.heap.size)(hO:∀k,O k→k<w.heap.size)(hgO:O g)(hgS:¬S g)(W0:World)(hE:Env W0)(hW:Fr nob W0 w)(hSW:∀k,S k→W0.heap.size≤k)(hg:w.heap[g]? =some (.cells (cmd20 p g0 g1 g2 g3 g4 g5 g6 g7 g8 97 [] SV.zero .nilIface (.slice none 0 0) []) 35 (0,0)))(h:CRd b l x s S w):
 Calls Tryz.prog 58 #[.pointer (some ⟨b,0,none⟩),.pointer (some ⟨g,0,none⟩)] w (Zbb b g l x S O w p g0 g1 g2 g3 g4 g5 g6 g7 g8 97 (ZsD x l (cv0 p gv 97) s)):=by
 rw[show ZsD x l (cv0 p gv 97) s=(false,{cv0 p gv 97 with arg:=(Zah l p s).1},(Zah l p s).2)from rfl];have rg:=Zw hg _ (Fr.refl _ _);have d:=lt_heap hg;have H:=hid h;have HG:=hid hg;have HC:=hid (Zfq b l x p s S w hl ha (by omega) h);obtain⟨R,hR⟩:∃R,Zah l p s=R:=⟨_,rfl⟩;rw[hR]at HC⊢;obtain⟨ra,rs⟩:=R;clear hg h;go_enter Tryz.func58,Tryz.ntmps58;go_wp2_with fail;refine HC.out.mono ?_;rintro z w1 ⟨rfl,S',h1,a⟩;have c:¬S' g:=fun e=>hgS (a.old g d e);have g1:=a.fr.heap HG.out hgS;have j:=Zw g1 _ (Fr.refl _ _);have g2:=Za g1 11 (.string ⟨ra.toArray⟩);have h2:=h1.setg c 11 (.string ⟨ra.toArray⟩);have f:=(Stp.gs a d).trans (Stp.setg (S:=S') (g:=g) 11 (.string ⟨ra.toArray⟩));have G2:=hid g2;have H2:=hid h2;have i:=hid f;clear g1 g2 h1 h2 a f rg;go_wp2;go_ret;exact⟨.nilIface,.slice none 0 0,S',rfl,G2.out,rfl,PrO.nil _ _,H2.out,i.out,c⟩
theorem ZpU(s:AdS)(w:World)(hl:l.length≤99000)(ha:s.at_≤l.length)(hm:s.marks.length≤100000)(hS:∀k,S k→k<w.heap.size)(hO:∀k,O k→k<w.heap.size)(hgO:O g)(hgS:¬S g)(W0:World)(hE:Env W0)(hW:Fr nob W0 w)(hSW:∀k,S k→W0.heap.size≤k)(hg:w.heap[g]? =some (.cells (cmd20 p g0 g1 g2 g3 g4 g5 g6 g7 g8 105 [] SV.zero .nilIface (.slice none 0 0) []) 35 (0,0)))(h:CRd b l x s S w):
 Calls Tryz.prog 58 #[.pointer (some ⟨b,0,none⟩),.pointer (some ⟨g,0,none⟩)] w (Zbb b g l x S O w p g0 g1 g2 g3 g4 g5 g6 g7 g8 105 (ZsD x l (cv0 p gv 105) s)):=by
 rw[show ZsD x l (cv0 p gv 105) s=(false,{cv0 p gv 105 with arg:=(Zah l p s).1},(Zah l p s).2)from rfl];have rg:=Zw hg _ (Fr.refl _ _);have d:=lt_heap hg;have H:=hid h;have HG:=hid hg;have HC:=hid (Zfq b l x p s S w hl ha (by omega) h);obtain⟨R,hR⟩:∃R,Zah l p s=R:=⟨_,rfl⟩;rw[hR]at HC⊢;obtain⟨ra,rs⟩:=R;clear hg h;go_enter Tryz.func58,Tryz.ntmps58;go_wp2_with fail;refine HC.out.mono ?_;rintro z w1 ⟨rfl,S',h1,a⟩;have c:¬S' g:=fun e=>hgS (a.old g d e);have g1:=a.fr.heap HG.out hgS;have j:=Zw g1 _ (Fr.refl _ _);have g2:=Za g1 11 (.string ⟨ra.toArray⟩);have h2:=h1.setg c 11 (.string ⟨ra.toArray⟩);have f:=(Stp.gs a d).trans (Stp.setg (S:=S') (g:=g) 11 (.string ⟨ra.toArray⟩));have G2:=hid g2;have H2:=hid h2;have i:=hid f;clear g1 g2 h1 h2 a f rg;go_wp2;go_ret;exact⟨.nilIface,.slice none 0 0,S',rfl,G2.out,rfl,PrO.nil _ _,H2.out,i.out,c⟩
theorem ZqJ(s:AdS)(w:World)(hl:l.length≤99000)(ha:s.at_≤l.length)(hm:s.marks.length≤100000)(hS:∀k,S k→k<w.heap.size)(hO:∀k,O k→k<w.heap.size)(hgO:O g)(hgS:¬S g)(W0:World)(hE:Env W0)(hW:Fr nob W0 w)(hSW:∀k,S k→W0.heap.size≤k)(hg:w.heap[g]? =some (.cells (cmd20 p g0 g1 g2 g3 g4 g5 g6 g7 g8 99 [] SV.zero .nilIface (.slice none 0 0) []) 35 (0,0)))(h:CRd b l x s S w):
 Calls Tryz.prog 58 #[.pointer (some ⟨b,0,none⟩),.pointer (some ⟨g,0,none⟩)] w (Zbb b g l x S O w p g0 g1 g2 g3 g4 g5 g6 g7 g8 99 (ZsD x l (cv0 p gv 99) s)):=by
 rw[show ZsD x l (cv0 p gv 99) s=(false,{cv0 p gv 99 with arg:=(Zah l p s).1},(Zah l p s).2)from rfl];have rg:=Zw hg _ (Fr.refl _ _);have d:=lt_heap hg;have H:=hid h;have HG:=hid hg;have HC:=hid (Zfq b l x p s S w hl ha (by omega) h);obtain⟨R,hR⟩:∃R,Zah l p s=R:=⟨_,rfl⟩;rw[hR]at HC⊢;obtain⟨ra,rs⟩:=R;clear hg h;go_enter Tryz.func58,Tryz.ntmps58;go_wp2_with fail;refine HC.out.mono ?_;rintro z w1 ⟨rfl,S',h1,a⟩;have c:¬S' g:=fun e=>hgS (a.old g d e);have g1:=a.fr.heap HG.out hgS;have j:=Zw g1 _ (Fr.refl _ _);have g2:=Za g1 11 (.string ⟨ra.toArray⟩);have h2:=h1.setg c 11 (.string ⟨ra.toArray⟩);have f:=(Stp.gs a d).trans (Stp.setg (S:=S') (g:=g) 11 (.string ⟨ra.toArray⟩));have G2:=hid g2;have H2:=hid h2;have i:=hid f;clear g1 g2 h1 h2 a f rg;go_wp2;go_ret;exact⟨.nilIface,.slice none 0 0,S',rfl,G2.out,rfl,PrO.nil _ _,H2.out,i.out,c⟩
theorem ZpV(s:AdS)(w:World)(hl:l.length≤99000)(ha:s.at_≤l.length)(hm:s.marks.length≤100000)(hS:∀k,S k→k<w.heap.size)(hO:∀k,O k→k<w.heap.size)(hgO:O g)(hgS:¬S g)(W0:World)(hE:Env W0)(hW:Fr nob W0 w)(hSW:∀k,S k→W0.heap.size≤k)(hg:w.heap[g]? =some (.cells (cmd20 p g0 g1 g2 g3 g4 g5 g6 g7 g8 114 [] SV.zero .nilIface (.slice none 0 0) []) 35 (0,0)))(h:CRd b l x s S w):
 Calls Tryz.prog 58 #[.pointer (some ⟨b,0,none⟩),.pointer (some ⟨g,0,none⟩)] w (Zbb b g l x S O w p g0 g1 g2 g3 g4 g5 g6 g7 g8 114 (ZsD x l (cv0 p gv 114) s)):=by
 rw[show ZsD x l (cv0 p gv 114) s=(false,{cv0 p gv 114 with arg:=(ZaR l s).1},(ZaR l s).2)from rfl];have rg:=Zw hg _ (Fr.refl _ _);have f:=lt_heap hg;have H:=hid h;have HG:=hid hg;have HC:=hid (ZhT b l x s S w hl ha h);obtain⟨R,hR⟩:∃R,ZaR l s=R:=⟨_,rfl⟩;rw[hR]at HC⊢;obtain⟨ra,rs⟩:=R;clear hg h;go_enter Tryz.func58,Tryz.ntmps58;go_wp2_with fail;refine HC.out.mono ?_;rintro z w1 ⟨rfl,h1,a⟩;obtain⟨S',d⟩:∃S':Nat→Prop,S'=S:=⟨_,rfl⟩;rw[show CRd b l x rs S w1↔CRd b l x rs S' w1 by rw[d]]at h1;rw[show Stp S w S w1↔Stp S w S' w1 by rw[d]]at a;have c:¬S' g:=fun e=>hgS (a.old g f e);have g1:=a.fr.heap HG.out hgS;have m:=Zw g1 _ (Fr.refl _ _);have g2:=Za g1 11 (.string ⟨ra.toArray⟩);have h2:=h1.setg c 11 (.string ⟨ra.toArray⟩);have i:=(Stp.gs a f).trans (Stp.setg (S:=S') (g:=g) 11 (.string ⟨ra.toArray⟩));have G2:=hid g2;have H2:=hid h2;have j:=hid i
 clear g1 g2 h1 h2 a i rg;go_wp2;go_ret;exact⟨.nilIface,.slice none 0 0,S',rfl,G2.out,rfl,PrO.nil _ _,H2.out,j.out,c⟩
theorem ZpW(s:AdS)(w:World)(hl:l.length≤99000)(ha:s.at_≤l.length)(hm:s.marks.length≤100000)(hS:∀k,S k→k<w.heap.size)(hO:∀k,O k→k<w.heap.size)(hgO:O g)(hgS:¬S g)(W0:World)(hE:Env W0)(hW:Fr nob W0 w)(hSW:∀k,S k→W0.heap.size≤k)(hg:w.heap[g]? =some (.cells (cmd20 p g0 g1 g2 g3 g4 g5 g6 g7 g8 119 [] SV.zero .nilIface (.slice none 0 0) []) 35 (0,0)))(h:CRd b l x s S w):
 Calls Tryz.prog 58 #[.pointer (some ⟨b,0,none⟩),.pointer (some ⟨g,0,none⟩)] w (Zbb b g l x S O w p g0 g1 g2 g3 g4 g5 g6 g7 g8 119 (ZsD x l (cv0 p gv 119) s)):=by
 rw[show ZsD x l (cv0 p gv 119) s=(false,{cv0 p gv 119 with arg:=(ZaR l s).1},(ZaR l s).2)from rfl];have rg:=Zw hg _ (Fr.refl _ _);have f:=lt_heap hg;have H:=hid h;have HG:=hid hg;have HC:=hid (ZhT b l x s S w hl ha h);obtain⟨R,hR⟩:∃R,ZaR l s=R:=⟨_,rfl⟩;rw[hR]at HC⊢;obtain⟨ra,rs⟩:=R;clear hg h;go_enter Tryz.func58,Tryz.ntmps58;go_wp2_with fail;refine HC.out.mono ?_;rintro z w1 ⟨rfl,h1,a⟩;obtain⟨S',d⟩:∃S':Nat→Prop,S'=S:=⟨_,rfl⟩;rw[show CRd b l x rs S w1↔CRd b l x rs S' w1 by rw[d]]at h1;rw[show Stp S w S w1↔Stp S w S' w1 by rw[d]]at a;have c:¬S' g:=fun e=>hgS (a.old g f e);have g1:=a.fr.heap HG.out hgS;have m:=Zw g1 _ (Fr.refl _ _);have g2:=Za g1 11 (.string ⟨ra.toArray⟩);have h2:=h1.setg c 11 (.string ⟨ra.toArray⟩);have i:=(Stp.gs a f).trans (Stp.setg (S:=S') (g:=g) 11 (.string ⟨ra.toArray⟩));have G2:=hid g2;have H2:=hid h2;have j:=hid i
 clear g1 g2 h1 h2 a i rg;go_wp2;go_ret;exact⟨.nilIface,.slice none 0 0,S',rfl,G2.out,rfl,PrO.nil _ _,H2.out,j.out,c⟩
theorem ZpX(s:AdS)(w:World)(hl:l.length≤99000)(ha:s.at_≤l.length)(hm:s.marks.length≤100000)(hS:∀k,S k→k<w.heap.size)(hO:∀k,O k→k<w.heap.size)(hgO:O g)(hgS:¬S g)(W0:World)(hE:Env W0)(hW:Fr nob W0 w)(hSW:∀k,S k→W0.heap.size≤k)(hg:w.heap[g]? =some (.cells (cmd20 p g0 g1 g2 g3 g4 g5 g6 g7 g8 121 [] SV.zero .nilIface (.slice none 0 0) []) 35 (0,0)))(h:CRd b l x s S w):
 Calls Tryz.prog 58 #[.pointer (some ⟨b,0,none⟩),.pointer (some ⟨g,0,none⟩)] w (Zbb b g l x S O w p g0 g1 g2 g3 g4 g5 g6 g7 g8 121 (ZsD x l (cv0 p gv 121) s)):=by
 rw[show ZsD x l (cv0 p gv 121) s=(true,{cv0 p gv 121 with table:=(ZaP l s).1},(ZaP l s).2)from rfl];have rg:=Zw hg _ (Fr.refl _ _);have f:=lt_heap hg;have H:=hid h;have HG:=hid hg;have HC:=hid (ZmR b l x s S w hl ha hS h);obtain⟨R,hR⟩:∃R,ZaP l s=R:=⟨_,rfl⟩;rw[hR]at HC⊢;obtain⟨ra,rs⟩:=R;clear hg h;go_enter Tryz.func58,Tryz.ntmps58;go_wp2_with fail;refine HC.out.mono ?_;rintro z w1 ⟨rfl,h1,a⟩;obtain⟨S',d⟩:∃S':Nat→Prop,S'=S:=⟨_,rfl⟩;rw[show CRd b l x rs S w1↔CRd b l x rs S' w1 by rw[d]]at h1;rw[show Stp S w S w1↔Stp S w S' w1 by rw[d]]at a;have c:¬S' g:=fun e=>hgS (a.old g f e);have g1:=a.fr.heap HG.out hgS;have m:=Zw g1 _ (Fr.refl _ _);have g2:=Za g1 19 (.string ⟨ra.toArray⟩);have h2:=h1.setg c 19 (.string ⟨ra.toArray⟩);have i:=(Stp.gs a f).trans (Stp.setg (S:=S') (g:=g) 19 (.string ⟨ra.toArray⟩));have G2:=hid g2;have H2:=hid h2;have j:=hid i
 clear g1 g2 h1 h2 a i rg;go_wp2;go_ret;exact⟨.nilIface,.slice none 0 0,S',rfl,G2.out,rfl,PrO.nil _ _,H2.out,j.out,c⟩
theorem ZpY(s:AdS)(w:World)(hl:l.length≤99000)(ha:s.at_≤l.length)(hm:s.marks.length≤100000)(hS:∀k,S k→k<w.heap.size)(hO:∀k,O k→k<w.heap.size)(hgO:O g)(hgS:¬S g)(W0:World)(hE:Env W0)(hW:Fr nob W0 w)(hSW:∀k,S k→W0.heap.size≤k)(hg:w.heap[g]? =some (.cells (cmd20 p g0 g1 g2 g3 g4 g5 g6 g7 g8 115 [] SV.zero .nilIface (.slice none 0 0) []) 35 (0,0)))(h:CRd b l x s S w):
 Calls Tryz.prog 58 #[.pointer (some ⟨b,0,none⟩),.pointer (some ⟨g,0,none⟩)] w (Zbb b g l x S O w p g0 g1 g2 g3 g4 g5 g6 g7 g8 115 (ZsD x l (cv0 p gv 115) s)):=by
 rw[show ZsD x l (cv0 p gv 115) s=((Zet x l s).1.file==[],{cv0 p gv 115 with sub:=(Zet x l s).1},(Zet x l s).2)from rfl];have rg:=Zw hg _ (Fr.refl _ _);have f:=lt_heap hg;have H:=hid h;have HG:=hid hg;have HC:=hid (Zwo b l x s S O w hl ha hm hS hO W0 hE hW hSW h);obtain⟨R,hR⟩:∃R,Zet x l s=R:=⟨_,rfl⟩;rw[hR]at HC⊢;obtain⟨⟨tx,tr,pt,r,al,pr,fi⟩,rs⟩:=R;simp only;have o:=hid hgO;clear hg h hgO;cases fi with
 |nil=>
  go_enter Tryz.func58,Tryz.ntmps58;go_wp2_with fail;refine HC.out.mono ?_;rintro z w1 ⟨u,pv,S',rfl,rn,po,h1,a⟩;obtain⟨pa,pc,rfl⟩:=Zb po.1;rcases rn.shape with rfl|⟨iu,yu,rfl⟩
  ·have d:¬S' g:=fun e=>hgS (a.old g f e);have g1:=a.fr.heap HG.out hgS;have A:=Zw g1 _ (Fr.refl _ _);obtain⟨w2,c⟩:∃w2,w2=Zcw w1 g (.string ⟨tx.toArray⟩) .nilIface (.slice pa pt.length pc) (.int .i64 r) (.bool al) (.bool pr) (.string ⟨#[]⟩):=⟨_,rfl⟩;have f2:Fr (fun k=>k=g) w1 w2:=by rw[c];exact Zcl _ _ _ _ _ _ _ _ _
   have g2:=ZbU g1 (.string ⟨tx.toArray⟩) .nilIface (.slice pa pt.length pc) (.int .i64 r) (.bool al) (.bool pr) (.string ⟨#[]⟩);rw[←c]at g2;have B:=Zw g2 _ (Fr.refl _ _);have h2:=h1.keep f2 (fun k hk e=>d (by have hk:k=g:=hk;rw[←hk];exact e));have n:Stp (GS S g) w (GS S' g) w2:=⟨(Stp.gs a f).fr.trans f2 (fun k hk e=>.inr e),(Stp.gs a f).old,fun q k hk=>Nat.lt_of_lt_of_le ((Stp.gs a f).lt q k hk) f2.size⟩;have m:=RN.keep f2 (fun k _ hk=>by have hk:k=g:=hk;rw[hk];exact .inr o.out) (fun _ _ hk=>hk) _ _ rn;have j:=po.keep f2 (fun k hk=>by have hk:k=g:=hk;rw[hk];exact .inr o.out) (fun _ _ hk=>hk);dsimp only[Zcw]at c;have i:=hid c;have G2:=hid g2;have H2:=hid h2;have y:=hid n;have v:=hid m;have t:=hid j;clear g1 g2 h1 h2 a n rg rn m po j c f2;go_wp2_with(rw[←i.out]);go_ret;(try rw[←i.out]);exact⟨.nilIface,.slice pa pt.length pc,S',rfl,G2.out,v.out,t.out,H2.out,y.out,d⟩
  ·have d:¬S' g:=fun e=>hgS (a.old g f e);have g1:=a.fr.heap HG.out hgS;have A:=Zw g1 _ (Fr.refl _ _);obtain⟨w2,c⟩:∃w2,w2=Zcw w1 g (.string ⟨tx.toArray⟩) (.iface iu yu) (.slice pa pt.length pc) (.int .i64 r) (.bool al) (.bool pr) (.string ⟨#[]⟩):=⟨_,rfl⟩;have f2:Fr (fun k=>k=g) w1 w2:=by rw[c];exact Zcl _ _ _ _ _ _ _ _ _
   have g2:=ZbU g1 (.string ⟨tx.toArray⟩) (.iface iu yu) (.slice pa pt.length pc) (.int .i64 r) (.bool al) (.bool pr) (.string ⟨#[]⟩);rw[←c]at g2;have B:=Zw g2 _ (Fr.refl _ _);have h2:=h1.keep f2 (fun k hk e=>d (by have hk:k=g:=hk;rw[←hk];exact e));have n:Stp (GS S g) w (GS S' g) w2:=⟨(Stp.gs a f).fr.trans f2 (fun k hk e=>.inr e),(Stp.gs a f).old,fun q k hk=>Nat.lt_of_lt_of_le ((Stp.gs a f).lt q k hk) f2.size⟩;have m:=RN.keep f2 (fun k _ hk=>by have hk:k=g:=hk;rw[hk];exact .inr o.out) (fun _ _ hk=>hk) _ _ rn;have j:=po.keep f2 (fun k hk=>by have hk:k=g:=hk;rw[hk];exact .inr o.out) (fun _ _ hk=>hk);dsimp only[Zcw]at c;have i:=hid c;have G2:=hid g2;have H2:=hid h2;have y:=hid n;have v:=hid m;have t:=hid j;clear g1 g2 h1 h2 a n rg rn m po j c f2;go_wp2_with(rw[←i.out]);go_ret;(try rw[←i.out]);exact⟨.iface iu yu,.slice pa pt.length pc,S',rfl,G2.out,v.out,t.out,H2.out,y.out,d⟩
 |cons fc fr=>
  go_enter Tryz.func58,Tryz.ntmps58;go_wp2_with fail;refine HC.out.mono ?_;rintro z w1 ⟨u,pv,S',rfl,rn,po,h1,a⟩;obtain⟨pa,pc,rfl⟩:=Zb po.1;rcases rn.shape with rfl|⟨iu,yu,rfl⟩
  ·have d:¬S' g:=fun e=>hgS (a.old g f e);have g1:=a.fr.heap HG.out hgS;have A:=Zw g1 _ (Fr.refl _ _);obtain⟨w2,c⟩:∃w2,w2=Zcw w1 g (.string ⟨tx.toArray⟩) .nilIface (.slice pa pt.length pc) (.int .i64 r) (.bool al) (.bool pr) (.string ⟨(fc::fr).toArray⟩):=⟨_,rfl⟩;have f2:Fr (fun k=>k=g) w1 w2:=by rw[c];exact Zcl _ _ _ _ _ _ _ _ _
   have g2:=ZbU g1 (.string ⟨tx.toArray⟩) .nilIface (.slice pa pt.length pc) (.int .i64 r) (.bool al) (.bool pr) (.string ⟨(fc::fr).toArray⟩);rw[←c]at g2;have B:=Zw g2 _ (Fr.refl _ _);have h2:=h1.keep f2 (fun k hk e=>d (by have hk:k=g:=hk;rw[←hk];exact e));have n:Stp (GS S g) w (GS S' g) w2:=⟨(Stp.gs a f).fr.trans f2 (fun k hk e=>.inr e),(Stp.gs a f).old,fun q k hk=>Nat.lt_of_lt_of_le ((Stp.gs a f).lt q k hk) f2.size⟩;have m:=RN.keep f2 (fun k _ hk=>by have hk:k=g:=hk;rw[hk];exact .inr o.out) (fun _ _ hk=>hk) _ _ rn;have j:=po.keep f2 (fun k hk=>by have hk:k=g:=hk;rw[hk];exact .inr o.out) (fun _ _ hk=>hk);dsimp only[Zcw]at c;have i:=hid c;have G2:=hid g2;have H2:=hid h2;have y:=hid n;have v:=hid m;have t:=hid j;clear g1 g2 h1 h2 a n rg rn m po j c f2;go_wp2_with(rw[←i.out]);go_ret;(try rw[←i.out]);exact⟨.nilIface,.slice pa pt.length pc,S',rfl,G2.out,v.out,t.out,H2.out,y.out,d⟩
  ·have d:¬S' g:=fun e=>hgS (a.old g f e);have g1:=a.fr.heap HG.out hgS;have A:=Zw g1 _ (Fr.refl _ _);obtain⟨w2,c⟩:∃w2,w2=Zcw w1 g (.string ⟨tx.toArray⟩) (.iface iu yu) (.slice pa pt.length pc) (.int .i64 r) (.bool al) (.bool pr) (.string ⟨(fc::fr).toArray⟩):=⟨_,rfl⟩;have f2:Fr (fun k=>k=g) w1 w2:=by rw[c];exact Zcl _ _ _ _ _ _ _ _ _
   have g2:=ZbU g1 (.string ⟨tx.toArray⟩) (.iface iu yu) (.slice pa pt.length pc) (.int .i64 r) (.bool al) (.bool pr) (.string ⟨(fc::fr).toArray⟩);rw[←c]at g2;have B:=Zw g2 _ (Fr.refl _ _);have h2:=h1.keep f2 (fun k hk e=>d (by have hk:k=g:=hk;rw[←hk];exact e));have n:Stp (GS S g) w (GS S' g) w2:=⟨(Stp.gs a f).fr.trans f2 (fun k hk e=>.inr e),(Stp.gs a f).old,fun q k hk=>Nat.lt_of_lt_of_le ((Stp.gs a f).lt q k hk) f2.size⟩;have m:=RN.keep f2 (fun k _ hk=>by have hk:k=g:=hk;rw[hk];exact .inr o.out) (fun _ _ hk=>hk) _ _ rn;have j:=po.keep f2 (fun k hk=>by have hk:k=g:=hk;rw[hk];exact .inr o.out) (fun _ _ hk=>hk);dsimp only[Zcw]at c;have i:=hid c;have G2:=hid g2;have H2:=hid h2;have y:=hid n;have v:=hid m;have t:=hid j;clear g1 g2 h1 h2 a n rg rn m po j c f2;go_wp2_with(rw[←i.out]);go_ret;(try rw[←i.out]);exact⟨.iface iu yu,.slice pa pt.length pc,S',rfl,G2.out,v.out,t.out,H2.out,y.out,d⟩
theorem ZmS(n:UInt8)(s:AdS)(w:World)(hl:l.length≤99000)(ha:s.at_≤l.length)(hm:s.marks.length≤100000)(hS:∀k,S k→k<w.heap.size)(hO:∀k,O k→k<w.heap.size)(hgO:O g)(hgS:¬S g)(W0:World)(hE:Env W0)(hW:Fr nob W0 w)(hSW:∀k,S k→W0.heap.size≤k)(hg:w.heap[g]? =some (.cells (cmd20 p g0 g1 g2 g3 g4 g5 g6 g7 g8 n [] SV.zero .nilIface (.slice none 0 0) []) 35 (0,0)))(h:CRd b l x s S w)(n123:n≠123)(n125:n≠125)(n58:n≠58)(n98:n≠98)(n116:n≠116)(n84:n≠84)(n97:n≠97)(n105:n≠105)(n99:n≠99)(n114:n≠114)(n119:n≠119)(n115:n≠115)(n121:n≠121):
 Calls Tryz.prog 58 #[.pointer (some ⟨b,0,none⟩),.pointer (some ⟨g,0,none⟩)] w (Zbb b g l x S O w p g0 g1 g2 g3 g4 g5 g6 g7 g8 n (ZsD x l (cv0 p gv n) s)):=by
 rw[show ZsD x l (cv0 p gv n) s=(true,cv0 p gv n,s) by
  unfold ZsD;simp only[n123,n125,n58,n98,n116,n84,n97,n105,n99,n114,n119,n115,n121,or_self,if_false]]
 have rg:=Zw hg _ (Fr.refl _ _);have H:=hid h;have HG:=hid hg;have j:((n.toNat:Int)==123)=false:=ZbD n123;have m:((n.toNat:Int)==125)=false:=ZbD n125;have o:((n.toNat:Int)==58)=false:=ZbD n58;have t:((n.toNat:Int)==98)=false:=ZbD n98;have e:((n.toNat:Int)==116)=false:=ZbD n116;have q:((n.toNat:Int)==84)=false:=ZbD n84;have r:((n.toNat:Int)==97)=false:=ZbD n97;have a:((n.toNat:Int)==105)=false:=ZbD n105;have u:((n.toNat:Int)==99)=false:=ZbD n99;have c:((n.toNat:Int)==114)=false:=ZbD n114;have f:((n.toNat:Int)==119)=false:=ZbD n119;have d:((n.toNat:Int)==115)=false:=ZbD n115;have i:((n.toNat:Int)==121)=false:=ZbD n121;clear n123 n125 n58 n98 n116 n84 n97 n105 n99 n114 n119 n115 n121 hg h;go_enter Tryz.func58,Tryz.ntmps58;go_wp2;go_ret;exact⟨.nilIface,.slice none 0 0,S,rfl,HG.out,rfl,PrO.nil _ _,H.out,Stp.refl _ _,hgS⟩
theorem Zlj(n:UInt8)(s:AdS)(w:World)(hl:l.length≤99000)(ha:s.at_≤l.length)(hm:s.marks.length≤100000)(hS:∀k,S k→k<w.heap.size)(hO:∀k,O k→k<w.heap.size)(hgO:O g)(hgS:¬S g)(W0:World)(hE:Env W0)(hW:Fr nob W0 w)(hSW:∀k,S k→W0.heap.size≤k)(hg:w.heap[g]? =some (.cells (cmd20 p g0 g1 g2 g3 g4 g5 g6 g7 g8 n [] SV.zero .nilIface (.slice none 0 0) []) 35 (0,0)))(h:CRd b l x s S w):
 Calls Tryz.prog 58 #[.pointer (some ⟨b,0,none⟩),.pointer (some ⟨g,0,none⟩)] w (Zbb b g l x S O w p g0 g1 g2 g3 g4 g5 g6 g7 g8 n (ZsD x l (cv0 p gv n) s)):=by
 by_cases j:n=123
 ·subst j;exact ZpR b g l x S O p gv g0 g1 g2 g3 g4 g5 g6 g7 g8 s w hl ha hm hS hO hgO hgS W0 hE hW hSW hg h
 by_cases m:n=125
 ·subst m;exact ZpS b g l x S O p gv g0 g1 g2 g3 g4 g5 g6 g7 g8 s w hl ha hm hS hO hgO hgS W0 hE hW hSW hg h
 by_cases o:n=58
 ·subst o;exact ZqF b g l x S O p gv g0 g1 g2 g3 g4 g5 g6 g7 g8 s w hl ha hm hS hO hgO hgS W0 hE hW hSW hg h
 by_cases t:n=98
 ·subst t;exact ZqG b g l x S O p gv g0 g1 g2 g3 g4 g5 g6 g7 g8 s w hl ha hm hS hO hgO hgS W0 hE hW hSW hg h
 by_cases e:n=116
 ·subst e;exact ZpT b g l x S O p gv g0 g1 g2 g3 g4 g5 g6 g7 g8 s w hl ha hm hS hO hgO hgS W0 hE hW hSW hg h
 by_cases q:n=84
 ·subst q;exact ZqH b g l x S O p gv g0 g1 g2 g3 g4 g5 g6 g7 g8 s w hl ha hm hS hO hgO hgS W0 hE hW hSW hg h
 by_cases r:n=97
 ·subst r;exact ZqI b g l x S O p gv g0 g1 g2 g3 g4 g5 g6 g7 g8 s w hl ha hm hS hO hgO hgS W0 hE hW hSW hg h
 by_cases a:n=105
 ·subst a;exact ZpU b g l x S O p gv g0 g1 g2 g3 g4 g5 g6 g7 g8 s w hl ha hm hS hO hgO hgS W0 hE hW hSW hg h
 by_cases u:n=99
 ·subst u;exact ZqJ b g l x S O p gv g0 g1 g2 g3 g4 g5 g6 g7 g8 s w hl ha hm hS hO hgO hgS W0 hE hW hSW hg h
 by_cases c:n=114
 ·subst c;exact ZpV b g l x S O p gv g0 g1 g2 g3 g4 g5 g6 g7 g8 s w hl ha hm hS hO hgO hgS W0 hE hW hSW hg h
 by_cases f:n=119
 ·subst f;exact ZpW b g l x S O p gv g0 g1 g2 g3 g4 g5 g6 g7 g8 s w hl ha hm hS hO hgO hgS W0 hE hW hSW hg h
 by_cases d:n=115
 ·subst d;exact ZpY b g l x S O p gv g0 g1 g2 g3 g4 g5 g6 g7 g8 s w hl ha hm hS hO hgO hgS W0 hE hW hSW hg h
 by_cases i:n=121
 ·subst i;exact ZpX b g l x S O p gv g0 g1 g2 g3 g4 g5 g6 g7 g8 s w hl ha hm hS hO hgO hgS W0 hE hW hSW hg h
 exact ZmS b g l x S O p gv g0 g1 g2 g3 g4 g5 g6 g7 g8 n s w hl ha hm hS hO hgO hgS W0 hE hW hSW hg h j m o t e q r a u c f d i
end
end Go.Proofs.YtkfddjopbocpkaaGreatDoor
namespace Go.Proofs.YtkfddjopbocpkaaGreatDoor
open Go.Lib (hid)
open Go.RowKit
theorem Zq{w:World}{k:Nat}{o:Obj}(h:w.heap[k]? =some o):w.drew.heap[k]? =some o:=h
abbrev B5(w:World)(b:Nat)(v0 v1 v2 v3 v4:Value):Prop:=w.cell? ⟨b,0,none⟩=some v0∧w.cell? ⟨b,1,none⟩=some v1∧w.cell? ⟨b,2,none⟩=some v2∧w.cell? ⟨b,3,none⟩=some v3∧w.cell? ⟨b,4,none⟩=some v4
section
variable {w:World} {b k j:Nat} {v0 v1 v2 v3 v4:Value}
theorem B5.of{T:TypeId}{fr:Nat×Nat}(h:w.heap[b]? =some (.cells #[v0,v1,v2,v3,v4] T fr)):B5 w b v0 v1 v2 v3 v4:=⟨cell_at h rfl,cell_at h rfl,cell_at h rfl,cell_at h rfl,cell_at h rfl⟩
theorem B5.drew(h:B5 w b v0 v1 v2 v3 v4):B5 w.drew b v0 v1 v2 v3 v4:=h
theorem B5.set(h:B5 w b v0 v1 v2 v3 v4)(hb:k≠b)(u:Value):B5 (w.setCell ⟨k,j,none⟩ u) b v0 v1 v2 v3 v4:=⟨Zm h.1 hb,Zm h.2.1 hb,Zm h.2.2.1 hb,Zm h.2.2.2.1 hb,Zm h.2.2.2.2 hb⟩
end
theorem Zlk(l:List UInt8)(p:Nat)(x:BF)(w:World)(hl:l.length≤99000)(hp:p≤l.length)(hE:Env w)(z:Int)(q:Nat)(hR:ZX x l ⟨p,[],0⟩=.inl (z,q)):
 Calls Tryz.prog 29 #[.string ⟨l.toArray⟩,.int .i64 (p:Nat),.bool x] w fun e w'=>e=.returned (.tuple #[.agg zG,.slice none 0 0,.int .i64 (q:Nat),.int .i64 z])∧Fr nob w w':=by
 have u:¬z=0:=guardD_err hR;have U:(z==0)=false:=by simpa using u
 have V:(z !=0)=true:=by simpa using u
 obtain⟨w1,c⟩:∃w1,w1=w.alloc (.cells zG 30):=⟨_,rfl⟩;have f1:Fr nob w w1:=by rw[c];exact(Fr.refl _ _).alloc _
 have hz:w1.heap[w.heap.size]? =some (.cells zG 30 (0,0)):=by rw[c];exact newAt _ _
 have g:w1.heap.size=w.heap.size+1:=by rw[c];simp
 obtain⟨w2,d⟩:∃w2,w2=w1.alloc (.cells #[.string ⟨l.toArray⟩,.int .i64 (p:Nat),.bool x,.slice none 0 0,.int .i64 0] 116):=⟨_,rfl⟩;have f2:Fr nob w1 w2:=by rw[d];exact(Fr.refl _ _).alloc _
 have hb:w2.heap[w.heap.size+1]? =some (.cells #[.string ⟨l.toArray⟩,.int .i64 (p:Nat),.bool x,.slice none 0 0,.int .i64 0] 116 (0,0)):=by
  rw[d,←g];exact newAt _ _
 have s:w2.heap.size=w.heap.size+2:=by rw[d];simp[g]
 have hA:ARd (w.heap.size+1) l x ⟨p,[],0⟩ (fun k=>k=w.heap.size+1) w2:=⟨.slice none 0 0,⟨hb,World.ownsRow_nil _ _ _ _,fun _ h=>(by cases h),rfl⟩⟩;have hG:=Ziv (w.heap.size+1) l x p (fun k=>k=w.heap.size+1) (fun k=>k=w.heap.size) w2 hl hp (fun k hk=>by omega) (fun k hk=>by omega) w hE (f1.trans' f2) (fun k hk=>by omega) hA;rw[hR]at hG;have t:=f2.heap hz (fun x=>x);have q1:¬(l.length:Int)<(p:Int):=by omega
 have HG:=hid hG;have I:=hid c;have J:=hid d;have D:=hid (f1.trans' f2);have HZ:=hid t;have R:=hid s;have H:=hid g;clear hG c d f1 f2 hz t hb hA g s hE hR;go_enter Tryz.func29,Tryz.ntmps29;go_wp2_with(first|rw[←I.out]|rw[H.out]|rw[←J.out]);refine HG.out.mono ?_;intro e w3 he;obtain⟨gv,v,S',ms,rfl,⟨u1,u2,rfl,B,C⟩,N,o⟩:=he;obtain⟨O,h3⟩:=N;have y:=o.fr.heap HZ.out (fun h=>by omega);have S:w.heap.size≠w.heap.size+1:=by omega
 have FF:=hid (D.out.trans o.fr (fun i hi h=>by omega));obtain⟨w4,m⟩:∃w4,w4=w3.alloc (.cells #[.int .i64 gv.a.kind,.int .i64 gv.a.line,.string ⟨gv.a.text.toArray⟩,u1,.int .i64 gv.b.kind,.int .i64 gv.b.line,.string ⟨gv.b.text.toArray⟩,u2,.bool gv.no] 30):=⟨_,rfl⟩;have f4:Fr nob w3 w4:=by rw[m];exact(Fr.refl _ _).alloc _
 have f:=f4.heap h3.blk (fun x=>x);have n:=f4.heap y (fun x=>x);have r4:=Zd f _ (Fr.refl _ _);have HQ:=hid (B5.of f);have G:=hid (B5.drew (B5.of f));have rz:=Zk n;have K:=hid m;have L:=hid n;have E:=hid (FF.out.trans' f4);have P:=B.shape;have Q:=C.shape;clear B C m f4 f n h3 y o;rcases P with rfl|⟨i1,y1,rfl⟩
 all_goals rcases Q with rfl|⟨i2,y2,rfl⟩
 all_goals
  go_wp2_with(rw[←K.out])
  go_region_held3 (fun w'=>B5 w' (w.heap.size+1) (.string ⟨l.toArray⟩) (.int .i64 (q:Nat)) (.bool x) O (.int .i64 z)) (repeat(first|(with_reducible exact HQ.out)|(with_reducible exact G.out)|(with_reducible refine B5.set ?_ (by omega) _)|(with_reducible refine B5.drew ?_))) (fail)
 all_goals
  obtain⟨w5,j⟩:∃w5,w5=(((((((((w4.setCell ⟨w.heap.size,0,none⟩ (.int .i64 0)).setCell ⟨w.heap.size,1,none⟩ (.int .i64 0)).setCell ⟨w.heap.size,2,none⟩ (.string ⟨#[]⟩)).setCell ⟨w.heap.size,3,none⟩ .nilIface).setCell ⟨w.heap.size,4,none⟩ (.int .i64 0)).setCell ⟨w.heap.size,5,none⟩ (.int .i64 0)).setCell ⟨w.heap.size,6,none⟩ (.string ⟨#[]⟩)).setCell ⟨w.heap.size,7,none⟩ .nilIface).setCell ⟨w.heap.size,8,none⟩ (.bool false)).drew:=⟨_,rfl⟩;rw[←j];have A:w5.heap[w.heap.size]? =some (.cells zG 30 (0,0)):=by rw[j];exact Zq (Zf L.out (.int .i64 0) (.int .i64 0) (.string ⟨#[]⟩) .nilIface (.int .i64 0) (.int .i64 0) (.string ⟨#[]⟩) .nilIface (.bool false))
  have r:Fr nob w w5:=by rw[j];exact(Zjh E.out (Nat.le_refl _) (.int .i64 0) (.int .i64 0) (.string ⟨#[]⟩) .nilIface (.int .i64 0) (.int .i64 0) (.string ⟨#[]⟩) .nilIface (.bool false)).drew
  have M:=hid A;have F:=hid r;clear j A r rz r4;go_wp2;(try simp only[Exit.inBlock,Exit.then]);exact bodyPost_ret (ZbB rfl rfl M.out) rfl ⟨rfl,F.out⟩
theorem BC.drew{w:World}{b c:Nat}{v0 v1 v2 v3 v4 u0 u1 u2 u3 u4 u5 u6 u7 u8:Value}(h:B5 w b v0 v1 v2 v3 v4∧C9 w c u0 u1 u2 u3 u4 u5 u6 u7 u8):B5 w.drew b v0 v1 v2 v3 v4∧C9 w.drew c u0 u1 u2 u3 u4 u5 u6 u7 u8:=h
theorem BC.set{w:World}{b c k j:Nat}{v0 v1 v2 v3 v4 u0 u1 u2 u3 u4 u5 u6 u7 u8:Value}(h:B5 w b v0 v1 v2 v3 v4∧C9 w c u0 u1 u2 u3 u4 u5 u6 u7 u8)(hb:k≠b)(hc:k≠c)(u:Value):B5 (w.setCell ⟨k,j,none⟩ u) b v0 v1 v2 v3 v4∧C9 (w.setCell ⟨k,j,none⟩ u) c u0 u1 u2 u3 u4 u5 u6 u7 u8:=by
 obtain⟨h1,c0,c1,c2,c3,c4,c5,c6,c7,c8⟩:=h;exact⟨h1.set hb u,Zm c0 hc,Zm c1 hc,Zm c2 hc,Zm c3 hc,Zm c4 hc,Zm c5 hc,Zm c6 hc,Zm c7 hc,Zm c8 hc⟩
abbrev PgK(w':World)(b c:Nat)(l:List UInt8)(q:Nat)(x:Bool)(am:Option Addr)(ms:List (Nat×List UInt8))(cm:Nat)(gv:GV)(U1 U2:Value):Prop:=
 B5 w' b (.string ⟨l.toArray⟩) (.int .i64 (q:Nat)) (.bool x) (.slice am ms.length cm) (.int .i64 0)∧C9 w' c (.int .i64 gv.a.kind) (.int .i64 gv.a.line) (.string ⟨gv.a.text.toArray⟩) U1 (.int .i64 gv.b.kind) (.int .i64 gv.b.line) (.string ⟨gv.b.text.toArray⟩) U2 (.bool gv.no)
abbrev PgW(w4:World)(b:Nat)(gv:GV)(U1 U2:Value):World:=(ZcB w4 b (.int .i64 gv.a.kind) (.int .i64 gv.a.line) (.string ⟨gv.a.text.toArray⟩) U1 (.int .i64 gv.b.kind) (.int .i64 gv.b.line) (.string ⟨gv.b.text.toArray⟩) U2 (.bool gv.no)).drew
abbrev PgC(gv:GV)(U1 U2:Value):Array Value:= #[.int .i64 gv.a.kind,.int .i64 gv.a.line,.string ⟨gv.a.text.toArray⟩,U1,.int .i64 gv.b.kind,.int .i64 gv.b.line,.string ⟨gv.b.text.toArray⟩,U2,.bool gv.no]
theorem ZxO{w w4:World}{gv:GV}{ms:List (Nat×List UInt8)}{am:Option Addr}{cm:Nat}{S' O0:Nat→Prop}{U1 U2:Value}(hz4:w4.heap[w.heap.size]? =some (.cells zG 30 (0,0)))(ff4:Fr nob w w4)
 (rn1:RN (SO S' fun k=>k=w.heap.size∨O0 k) w4 gv.a.tree U1) (rn2:RN (SO S' fun k=>k=w.heap.size∨O0 k) w4 gv.b.tree U2) (ma:OwM w4 ms (.slice am ms.length cm)) (nr:∀k,(Value.slice am ms.length cm).ownBlock=some k→¬k=w.heap.size)
 (ht1:∀k,(Value.slice am ms.length cm).ownBlock=some k→S' k) (ht4:∀k,S' k→w.heap.size≤k∧k<w4.heap.size):
 (PgW w4 w.heap.size gv U1 U2).heap[w.heap.size]? =some (.cells (PgC gv U1 U2) 30 (0,0))∧
 Zni nob (PgW w4 w.heap.size gv U1 U2) gv (.agg (PgC gv U1 U2))∧OwM (PgW w4 w.heap.size gv U1 U2) ms (.slice am ms.length cm)∧Fr nob w (PgW w4 w.heap.size gv U1 U2)∧
 ∃T:Nat→Prop,(∀k,(Value.slice am ms.length cm).ownBlock=some k→T k)∧(∀k,T k→w.heap.size≤k∧k<(PgW w4 w.heap.size gv U1 U2).heap.size)∧Zni (SO T O0) (PgW w4 w.heap.size gv U1 U2) gv (.agg (PgC gv U1 U2)):=by
 have c:Fr (fun k=>k=w.heap.size) w4 (PgW w4 w.heap.size gv U1 U2):=(Zas (.int .i64 gv.a.kind) (.int .i64 gv.a.line) (.string ⟨gv.a.text.toArray⟩) U1 (.int .i64 gv.b.kind) (.int .i64 gv.b.line) (.string ⟨gv.b.text.toArray⟩) U2 (.bool gv.no)).drew;refine⟨Zq (Zf hz4 (.int .i64 gv.a.kind) (.int .i64 gv.a.line) (.string ⟨gv.a.text.toArray⟩) U1 (.int .i64 gv.b.kind) (.int .i64 gv.b.line) (.string ⟨gv.b.text.toArray⟩) U2 (.bool gv.no)),⟨_,_,rfl,?_,?_⟩,ownsRow_fr ma c (fun k hk h=>nr k hk h),ff4.trans c (fun i hi h=>by have h:i=w.heap.size:=h;omega),S',ht1,fun k hk=>⟨(ht4 k hk).1,by have:=c.size;have:=(ht4 k hk).2;omega⟩,⟨_,_,rfl,?_,?_⟩⟩
 ·exact RN.keep c (fun k _ h=>.inr (.inl h)) (fun _ _ x=>x.elim) _ _ rn1
 ·exact RN.keep c (fun k _ h=>.inr (.inl h)) (fun _ _ x=>x.elim) _ _ rn2
 ·exact RN.keep c (fun k _ h=>.inr (.inl h)) (fun _ _ x=>x.elim .inl (fun e=>.inr (.inr e))) _ _ rn1
 ·exact RN.keep c (fun k _ h=>.inr (.inl h)) (fun _ _ x=>x.elim .inl (fun e=>.inr (.inr e))) _ _ rn2
theorem ZgQ(l:List UInt8)(p:Nat)(x:BF)(w:World)(hl:l.length≤99000)(hp:p≤l.length)(hE:Env w)(gv:GV)(q:Nat)(ms:List (Nat×List UInt8))(hR:ZX x l ⟨p,[],0⟩=.inr (gv,⟨q,ms,0⟩))(O0:Nat→Prop)(hO0:∀k,O0 k→k<w.heap.size):
 Calls Tryz.prog 29 #[.string ⟨l.toArray⟩,.int .i64 (p:Nat),.bool x] w fun e w'=>∃v mv,e=.returned (.tuple #[v,mv,.int .i64 (q:Nat),.int .i64 0])∧Zni nob w' gv v∧OwM w' ms mv∧Fr nob w w'∧∃T:Nat→Prop,(∀k,mv.ownBlock=some k→T k)∧(∀k,T k→w.heap.size≤k∧k<w'.heap.size)∧Zni (SO T O0) w' gv v:=by
 obtain⟨w1,d⟩:∃w1,w1=w.alloc (.cells zG 30):=⟨_,rfl⟩;have f1:Fr nob w w1:=by rw[d];exact(Fr.refl _ _).alloc _
 have hz:w1.heap[w.heap.size]? =some (.cells zG 30 (0,0)):=by rw[d];exact newAt _ _
 have z:w1.heap.size=w.heap.size+1:=by rw[d];simp
 obtain⟨w2,f⟩:∃w2,w2=w1.alloc (.cells #[.string ⟨l.toArray⟩,.int .i64 (p:Nat),.bool x,.slice none 0 0,.int .i64 0] 116):=⟨_,rfl⟩;have f2:Fr nob w1 w2:=by rw[f];exact(Fr.refl _ _).alloc _
 have hb:w2.heap[w.heap.size+1]? =some (.cells #[.string ⟨l.toArray⟩,.int .i64 (p:Nat),.bool x,.slice none 0 0,.int .i64 0] 116 (0,0)):=by
  rw[f,←z];exact newAt _ _
 have K:w2.heap.size=w.heap.size+2:=by rw[f];simp[z]
 have hA:ARd (w.heap.size+1) l x ⟨p,[],0⟩ (fun k=>k=w.heap.size+1) w2:=⟨.slice none 0 0,⟨hb,World.ownsRow_nil _ _ _ _,fun _ h=>(by cases h),rfl⟩⟩;have hG:=Ziv (w.heap.size+1) l x p (fun k=>k=w.heap.size+1) (fun k=>k=w.heap.size∨O0 k) w2 hl hp (fun k hk=>by omega) (fun k hk=>by rcases hk with hk|hk;(·omega);(·have:=hO0 k hk;omega)) w hE (f1.trans' f2) (fun k hk=>by omega) hA;rw[hR]at hG;have L:=f2.heap hz (fun x=>x);have q1:¬(l.length:Int)<(p:Int):=by omega
 have HG:=hid hG;have Q:=hid d;have R:=hid f;have O:=hid (f1.trans' f2);have HZ:=hid L;have m:=hid K;have P:=hid z;clear hG d f f1 f2 hz L hb hA z K hE hR;go_enter Tryz.func29,Tryz.ntmps29;go_wp2_with(first|rw[←Q.out]|rw[P.out]|rw[←R.out]);refine HG.out.mono ?_;intro e w3 he;obtain⟨v,S',rfl,⟨u1,u2,rfl,E,F⟩,S,c⟩:=he;obtain⟨N,h3⟩:=S;have M:=c.fr.heap HZ.out (fun h=>by omega);have Z:w.heap.size≠w.heap.size+1:=by omega
 have Y:w.heap.size≠w3.heap.size:=by have:=c.fr.size;have:=m.out;omega
 have FF:=hid (O.out.trans c.fr (fun i hi h=>by omega));have J:∀k,N.ownBlock=some k→¬k=w.heap.size:=fun k hk e=>by
  have h1:=(h3.nm k hk).2;have h2:=c.old k (by have:=m.out;omega) h1;have h2:k=w.heap.size+1:=h2;omega
 have H:∀k,N.ownBlock=some k→S' k:=fun k hk=>(h3.nm k hk).2;have I:∀k,S' k→w.heap.size≤k∧k<w3.heap.size:=fun k hk=>⟨by
  by_cases ho:k<w2.heap.size
  ·have h2:k=w.heap.size+1:=c.old k ho hk;omega
  ·have:=m.out;omega,c.lt (fun i (hi:i=w.heap.size+1)=>by have:=m.out;omega) k hk⟩
 have n:=hid H;have G:=hid I;clear H I;obtain⟨w4,A⟩:∃w4,w4=w3.alloc (.cells #[.int .i64 gv.a.kind,.int .i64 gv.a.line,.string ⟨gv.a.text.toArray⟩,u1,.int .i64 gv.b.kind,.int .i64 gv.b.line,.string ⟨gv.b.text.toArray⟩,u2,.bool gv.no] 30):=⟨_,rfl⟩;have f4:Fr nob w3 w4:=by rw[A];exact(Fr.refl _ _).alloc _
 have B:w4.heap[w3.heap.size]? =some (.cells #[.int .i64 gv.a.kind,.int .i64 gv.a.line,.string ⟨gv.a.text.toArray⟩,u1,.int .i64 gv.b.kind,.int .i64 gv.b.line,.string ⟨gv.b.text.toArray⟩,u2,.bool gv.no] 30 (0,0)):=by rw[A];exact newAt _ _
 have y:=f4.heap h3.blk (fun x=>x);have C:=h3.ma;obtain⟨am,cm,U⟩:=Zb C;subst U;have D:=f4.heap M (fun x=>x);have r4:=Zd y _ (Fr.refl _ _);have HQ:=hid (And.intro (B5.of y) (C9.of B));have j:=hid (BC.drew (And.intro (B5.of y) (C9.of B)));have rz:=Zk D;have o:=hid (show∀k,S' k→w.heap.size≤k∧k<w4.heap.size from fun k hk=>⟨(G.out k hk).1,by have:=f4.size;have:=(G.out k hk).2;omega⟩);have r:=hid A;have s:=hid D;have g:=hid (FF.out.trans' f4);have t:=hid (E.on f4);have u:=hid (F.on f4);have MA:=hid (ownsRow_fr C f4 (fun _ _ x=>x));have NR:=hid J;have V:=E.shape;have W:=F.shape;clear E F A f4 y D h3 M c B C J;rcases V with rfl|⟨i1,y1,rfl⟩
 all_goals rcases W with rfl|⟨i2,y2,rfl⟩
 ·go_wp2_with(rw[←r.out])
  go_region_held3 (fun w'=>PgK w' (w.heap.size+1) w3.heap.size l q x am ms cm gv .nilIface .nilIface) (repeat(first|(with_reducible exact HQ.out)|(with_reducible exact j.out)|(with_reducible refine BC.set ?_ (by omega) (by omega) _)|(with_reducible refine BC.drew ?_))) (fail)
  all_goals
   go_wp2;(try simp only[Exit.inBlock,Exit.then]);have X:=ZxO s.out g.out t.out u.out MA.out NR.out n.out o.out;exact bodyPost_ret (ZbB rfl rfl X.1) rfl ⟨_,_,rfl,X.2⟩
 ·go_wp2_with(rw[←r.out])
  go_region_held3 (fun w'=>PgK w' (w.heap.size+1) w3.heap.size l q x am ms cm gv .nilIface (.iface i2 y2)) (repeat(first|(with_reducible exact HQ.out)|(with_reducible exact j.out)|(with_reducible refine BC.set ?_ (by omega) (by omega) _)|(with_reducible refine BC.drew ?_))) (fail)
  all_goals
   go_wp2;(try simp only[Exit.inBlock,Exit.then]);have X:=ZxO s.out g.out t.out u.out MA.out NR.out n.out o.out;exact bodyPost_ret (ZbB rfl rfl X.1) rfl ⟨_,_,rfl,X.2⟩
 ·go_wp2_with(rw[←r.out])
  go_region_held3 (fun w'=>PgK w' (w.heap.size+1) w3.heap.size l q x am ms cm gv (.iface i1 y1) .nilIface) (repeat(first|(with_reducible exact HQ.out)|(with_reducible exact j.out)|(with_reducible refine BC.set ?_ (by omega) (by omega) _)|(with_reducible refine BC.drew ?_))) (fail)
  all_goals
   go_wp2;(try simp only[Exit.inBlock,Exit.then]);have X:=ZxO s.out g.out t.out u.out MA.out NR.out n.out o.out;exact bodyPost_ret (ZbB rfl rfl X.1) rfl ⟨_,_,rfl,X.2⟩
 ·go_wp2_with(rw[←r.out])
  go_region_held3 (fun w'=>PgK w' (w.heap.size+1) w3.heap.size l q x am ms cm gv (.iface i1 y1) (.iface i2 y2)) (repeat(first|(with_reducible exact HQ.out)|(with_reducible exact j.out)|(with_reducible refine BC.set ?_ (by omega) (by omega) _)|(with_reducible refine BC.drew ?_))) (fail)
  all_goals
   go_wp2;(try simp only[Exit.inBlock,Exit.then]);have X:=ZxO s.out g.out t.out u.out MA.out NR.out n.out o.out;exact bodyPost_ret (ZbB rfl rfl X.1) rfl ⟨_,_,rfl,X.2⟩
section
variable {s t:List UInt8}
variable {r:List UInt8} {q:AdS}
end
abbrev Zc1:List UInt8:=[32,9,10,59]
def lineL(l:List UInt8):List UInt8:=l.takeWhile (·!=10)
def Zaq(l:List UInt8):Nat→Nat→Nat
 |0,k=>bhd l Zc1 k
 |n+1,k=>if(l.drop (bhd l Zc1 k)).head? =some 35 then Zaq l n (bhd l Zc1 k+(lineL (l.drop (bhd l Zc1 k))).length)else bhd l Zc1 k
structure RdS where
 cmds:List CV
 labels:List (List UInt8)
 opens:List Nat
def RdS.zero:RdS:=⟨[],[],[]⟩
def ZbZ(c:CV)(s:RdS):Int⊕RdS:=
 if c.name=123 then(if s.opens.length=12 then .inl 4 else .inr ⟨s.cmds++[c],s.labels,s.opens++[c.at_]⟩)
 else if c.name=125 then(if s.opens=[]then .inl 16 else .inr ⟨s.cmds++[c],s.labels,s.opens.dropLast⟩)
 else if c.name=58 then(if s.labels.contains c.arg then .inl 15 else .inr ⟨s.cmds++[c],s.labels++[c.arg],s.opens⟩)
 else .inr ⟨s.cmds++[c],s.labels,s.opens⟩
abbrev ZpO:=(Int×Nat)⊕(RdS×List (Nat×List UInt8))
def Zdm(x:Bool)(l:List UInt8):Nat→Nat→RdS→List (Nat×List UInt8)→ZpO
 |0,_,s,ms=>.inr (s,ms)
 |n+1,k,s,ms=>
  if l.length≤k then .inr (s,ms)
  else if s.cmds.length=100 then .inl (3,k)
  else match Zeu x l k with
   | .inl z=>.inl z
   | .inr (c,q)=>match ZbZ c s with
     | .inl e=>.inl (e,c.at_)
     | .inr s'=>Zdm x l n (Zaq l (l.length+1) q.at_) s' (ms++q.marks)
def ZiD(c:CV):Bool:=c.name==98||c.name==116||c.name==84
def Zcc(labels:List (List UInt8))(c:CV):Bool:=ZiD c&&(c.arg !=[])&& !(labels.contains c.arg)
def Za8(s:RdS):Option (Int×Nat):=
 match s.opens.getLast? with
 |some p=>some (16,p)
 |none=>match s.cmds.find? (Zcc s.labels)with
  |some c=>some (14,c.at_)
  |none=>none
structure ScV where
 quiet:Bool
 cmds:List CV
abbrev ZqB:=(Int×Nat)⊕(ScV×List (Nat×List UInt8))
def ZdO(x:Bool)(l:List UInt8):ZqB:=
 if 4000<l.length then .inl (3,4000)
 else match Zdm x l 101 (Zaq l (l.length+1) 0) RdS.zero []with
  | .inl z=>.inl z
  | .inr (s,ms)=>match Za8 s with
    |some z=>.inl z
    |none=>.inr (⟨lineL l==[35,110],s.cmds⟩,ms)
section
variable {l A:List UInt8}
theorem ZdP(l:List UInt8):(lineL l).length≤l.length:=(List.takeWhile_sublist _).length_le
theorem ZiE{m:List UInt8}(h:m.head? =some 35):0<(lineL m).length:=by
 cases m with
 |nil=>cases h
 |cons a r=>
  injection h with h;subst h;unfold lineL;rw[List.takeWhile_cons,if_pos (by decide)];simp
theorem Zoo{k:Nat}{b:UInt8}(h:(l.drop k).head? =some b):k<l.length:=by
 refine Nat.lt_of_not_le fun hk=> ?_;rw[List.drop_eq_nil_of_le hk]at h;cases h
theorem Zeh:∀(n k:Nat),k≤l.length→k≤Zaq l n k∧Zaq l n k≤l.length
 |0,k,hk=>bhd_in Zc1 hk
 |n+1,k,hk=>by
  have hb:=bhd_in (l:=l) Zc1 hk;rw[Zaq];split
  ·next h=>
   have h1:=ZdP (l.drop (bhd l Zc1 k));rw[List.length_drop]at h1;have:=Zeh n (bhd l Zc1 k+(lineL (l.drop (bhd l Zc1 k))).length) (by omega);omega
  ·exact hb
theorem Zgq{x:Bool}{k:Nat}{c:CV}{q:AdS}(hk:k≤l.length)(h:Zeu x l k=.inr (c,q)):q.at_≤l.length∧q.e=0:=by
 unfold Zeu at h;cases hg:ZX x l ⟨k,[],0⟩with
 |inl z=>rw[hg]at h;cases h
 |inr z=>
  obtain⟨g,s⟩:=z;rw[hg]at h;simp only at h;split at h
  ·cases h
  ·next h0=>
   injection h with h;have hs:=guardD_le (s:=⟨k,[],0⟩) hk rfl hg;have h1:=Zom x g hs;rw[h]at h1;refine⟨h1,?_⟩;have:(ZbY x l g s).2.e=0:=by simpa using h0
   rw[h]at this;exact this
end
end Go.Proofs.YtkfddjopbocpkaaGreatDoor
