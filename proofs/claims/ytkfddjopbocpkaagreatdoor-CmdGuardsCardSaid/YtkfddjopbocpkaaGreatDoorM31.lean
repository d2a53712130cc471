/-
  Merged texts of this claim: CmdJ, AdrJ.
-/
import Derived.Test.YtkfddjopbocpkaaGreatDoorM24
import Derived.Test.YtkfddjopbocpkaaGreatDoorM30
set_option linter.unusedVariables false
set_option linter.unusedSimpArgs false
set_option maxRecDepth 100000
set_option maxHeartbeats 4000000
namespace Go.Proofs.YtkfddjopbocpkaaGreatDoor
open Go.Lib (hid)
open Go.RowKit
abbrev cmd20(p:Nat)(g0 g1 g2 g3 g4 g5 g6 g7 g8:Value)(n:UInt8)(arg:List UInt8)(s:SV)(u pv:Value)(tb:List UInt8):Array Value:=
 #[.int .i64 (p:Nat),g0,g1,g2,g3,g4,g5,g6,g7,g8,.int .u8 (n.toNat:Int),.string ⟨arg.toArray⟩,.string ⟨s.text.toArray⟩,u,pv,.int .i64 s.nth,.bool s.all,.bool s.print,.string ⟨s.file.toArray⟩,.string ⟨tb.toArray⟩]
theorem Zt{w:World}{b:Nat}{v0 v1 v2 v3 v4 v5 v6 v7 v8 v9 v10 v11 v12 v13 v14 v15 v16 v17 v18 v19:Value}{T:TypeId}(h:w.heap[b]? =some (.cells #[v0,v1,v2,v3,v4,v5,v6,v7,v8,v9,v10,v11,v12,v13,v14,v15,v16,v17,v18,v19] T (0,0))):∀w',Fr nob w w'→
 (w'.cell? ⟨b,0,none⟩=some v0∧w'.cell? ⟨b,10,none⟩=some v10∧w'.cell? ⟨b,11,none⟩=some v11∧w'.cell? ⟨b,12,none⟩=some v12∧w'.cell? ⟨b,13,none⟩=some v13∧w'.cell? ⟨b,14,none⟩=some v14∧w'.cell? ⟨b,15,none⟩=some v15∧w'.cell? ⟨b,16,none⟩=some v16∧w'.cell? ⟨b,17,none⟩=some v17∧w'.cell? ⟨b,18,none⟩=some v18∧w'.cell? ⟨b,19,none⟩=some v19)∧(w'.frozen? ⟨b,11,none⟩=false∧w'.frozen? ⟨b,12,none⟩=false∧w'.frozen? ⟨b,13,none⟩=false∧w'.frozen? ⟨b,14,none⟩=false∧w'.frozen? ⟨b,15,none⟩=false∧w'.frozen? ⟨b,16,none⟩=false∧w'.frozen? ⟨b,17,none⟩=false∧w'.frozen? ⟨b,18,none⟩=false∧w'.frozen? ⟨b,19,none⟩=false):=fun _ f=>by
 have h':=f.heap h (fun x=>x);exact⟨⟨cell_at h' rfl,cell_at h' rfl,cell_at h' rfl,cell_at h' rfl,cell_at h' rfl,cell_at h' rfl,cell_at h' rfl,cell_at h' rfl,cell_at h' rfl,cell_at h' rfl,cell_at h' rfl⟩,unfrozen_at h' _,unfrozen_at h' _,unfrozen_at h' _,unfrozen_at h' _,unfrozen_at h' _,unfrozen_at h' _,unfrozen_at h' _,unfrozen_at h' _,unfrozen_at h' _⟩
theorem Zbe{n:UInt8}{k:Nat}{hk:UInt8}(h:n≠hk)(he:hk.toNat=k:=by rfl):((n.toNat:Int)==(k:Int))=false:=by
 have:n.toNat≠k:=fun e=>h (UInt8.toNat_inj.1 (by omega));simp;omega
abbrev ZbP(w:World)(g:Nat)(x0 x1 x2 x3 x4 x5 x6:Value):World:=(((((((w.setCell ⟨g,12,none⟩ x0).setCell ⟨g,13,none⟩ x1).setCell ⟨g,14,none⟩ x2).setCell ⟨g,15,none⟩ x3).setCell ⟨g,16,none⟩ x4).setCell ⟨g,17,none⟩ x5).setCell ⟨g,18,none⟩ x6)
theorem ZbJ(w:World)(g:Nat)(x0 x1 x2 x3 x4 x5 x6:Value):Fr (fun k=>k=g) w (ZbP w g x0 x1 x2 x3 x4 x5 x6):=by
 have h:∀(x:World) (j:Nat) (v:Value),Fr (fun k=>k=g) w x→Fr (fun k=>k=g) w (x.setCell ⟨g,j,none⟩ v):=fun x j v hx=>hx.setCell (p:=⟨g,j,none⟩) (fun _=>rfl) v;exact h _ _ _ (h _ _ _ (h _ _ _ (h _ _ _ (h _ _ _ (h _ _ _ (h _ _ _ (Fr.refl _ _)))))))
theorem Zbt{w:World}{g:Nat}{a0 a1 a2 a3 a4 a5 a6 a7 a8 a9 a10 a11 a12 a13 a14 a15 a16 a17 a18 a19:Value}{T:TypeId}(h:w.heap[g]? =some (.cells #[a0,a1,a2,a3,a4,a5,a6,a7,a8,a9,a10,a11,a12,a13,a14,a15,a16,a17,a18,a19] T (0,0)))(x0 x1 x2 x3 x4 x5 x6:Value):
 (ZbP w g x0 x1 x2 x3 x4 x5 x6).heap[g]? =some (.cells #[a0,a1,a2,a3,a4,a5,a6,a7,a8,a9,a10,a11,x0,x1,x2,x3,x4,x5,x6,a19] T (0,0)):=by
 have h0:=Za h 12 x0;have h1:=Za h0 13 x1;have h2:=Za h1 14 x2;have h3:=Za h2 15 x3;have h4:=Za h3 16 x4;have h5:=Za h4 17 x5;have h6:=Za h5 18 x6;simpa using h6
def ZaP(b g:Nat)(l:List UInt8)(x:Bool)(S O:Nat→Prop)(w:World)(p:Nat)(g0 g1 g2 g3 g4 g5 g6 g7 g8:Value)(n:UInt8)(R:Bool×CV×AdS)(r:Ending)(w':World):Prop:=
 ∃u pv S',r=.returned (.bool R.1)∧w'.heap[g]? =some (.cells (cmd20 p g0 g1 g2 g3 g4 g5 g6 g7 g8 n R.2.1.arg R.2.1.sub u pv R.2.1.table) 35 (0,0))∧RN (SO S' O) w' R.2.1.sub.tree u∧PrO (SO S' O) w' R.2.1.sub.parts pv∧CRd b l x R.2.2 S' w'∧Stp (GS S g) w (GS S' g) w'∧¬S' g
abbrev cv0(p:Nat)(gv:GV)(n:UInt8):CV:=⟨p,gv,n,[],SV.zero,[]⟩
section
set_option linter.unusedSectionVars false
variable (b g:Nat) (l:List UInt8) (x:BF) (S O:Nat→Prop) (p:Nat) (gv:GV) (g0 g1 g2 g3 g4 g5 g6 g7 g8:Value)
include x
theorem ZmN(s:AdS)(w:World)(hl:l.length≤99000)(ha:s.at_≤l.length)(hm:s.marks.length≤100000)(hS:∀k,S k→k<w.heap.size)(hO:∀k,O k→k<w.heap.size)(hgO:O g)(hgS:¬S g)(W0:World)(hE:Env W0)(hW:Fr nob W0 w)(hSW:∀k,S k→W0.heap.size≤k)(hg:w.heap[g]? =some (.cells (cmd20 p g0 g1 g2 g3 g4 g5 g6 g7 g8 123 [] SV.zero .nilIface (.slice none 0 0) []) 35 (0,0)))(h:CRd b l x s S w):
 Calls Tryz.prog 58 #[.pointer (some ⟨b,0,none⟩),.pointer (some ⟨g,0,none⟩)] w (ZaP b g l x S O w p g0 g1 g2 g3 g4 g5 g6 g7 g8 123 (argsC x l (cv0 p gv 123) s)):=by
 rw[show argsC x l (cv0 p gv 123) s=(false,cv0 p gv 123,s)from rfl];have rg:=Zt hg _ (Fr.refl _ _);have hlt:=lt_heap hg;have H:=hid h;have HG:=hid hg;go_enter Tryz.func58,Tryz.ntmps58;go_wp2;go_ret;exact⟨.nilIface,.slice none 0 0,S,rfl,HG.out,rfl,PrO.nil _ _,H.out,Stp.refl _ _,hgS⟩
theorem ZmO(s:AdS)(w:World)(hl:l.length≤99000)(ha:s.at_≤l.length)(hm:s.marks.length≤100000)(hS:∀k,S k→k<w.heap.size)(hO:∀k,O k→k<w.heap.size)(hgO:O g)(hgS:¬S g)(W0:World)(hE:Env W0)(hW:Fr nob W0 w)(hSW:∀k,S k→W0.heap.size≤k)(hg:w.heap[g]? =some (.cells (cmd20 p g0 g1 g2 g3 g4 g5 g6 g7 g8 125 [] SV.zero .nilIface (.slice none 0 0) []) 35 (0,0)))(h:CRd b l x s S w):
 Calls Tryz.prog 58 #[.pointer (some ⟨b,0,none⟩),.pointer (some ⟨g,0,none⟩)] w (ZaP b g l x S O w p g0 g1 g2 g3 g4 g5 g6 g7 g8 125 (argsC x l (cv0 p gv 125) s)):=by
 rw[show argsC x l (cv0 p gv 125) s=(false,cv0 p gv 125,s)from rfl];have rg:=Zt hg _ (Fr.refl _ _);have hlt:=lt_heap hg;have H:=hid h;have HG:=hid hg;go_enter Tryz.func58,Tryz.ntmps58;go_wp2;go_ret;exact⟨.nilIface,.slice none 0 0,S,rfl,HG.out,rfl,PrO.nil _ _,H.out,Stp.refl _ _,hgS⟩
theorem Zns(s:AdS)(w:World)(hl:l.length≤99000)(ha:s.at_≤l.length)(hm:s.marks.length≤100000)(hS:∀k,S k→k<w.heap.size)(hO:∀k,O k→k<w.heap.size)(hgO:O g)(hgS:¬S g)(W0:World)(hE:Env W0)(hW:Fr nob W0 w)(hSW:∀k,S k→W0.heap.size≤k)(hg:w.heap[g]? =some (.cells (cmd20 p g0 g1 g2 g3 g4 g5 g6 g7 g8 58 [] SV.zero .nilIface (.slice none 0 0) []) 35 (0,0)))(h:CRd b l x s S w):
 Calls Tryz.prog 58 #[.pointer (some ⟨b,0,none⟩),.pointer (some ⟨g,0,none⟩)] w (ZaP b g l x S O w p g0 g1 g2 g3 g4 g5 g6 g7 g8 58 (argsC x l (cv0 p gv 58) s)):=by
 rw[show argsC x l (cv0 p gv 58) s=(false,{cv0 p gv 58 with arg:=(labelC l true s).1},(labelC l true s).2)from rfl];have rg:=Zt hg _ (Fr.refl _ _);have hlt:=lt_heap hg;have H:=hid h;have HG:=hid hg;have HC:=hid (ZcW b l x true s S w hl ha h);obtain⟨R,hR⟩:∃R,labelC l true s=R:=⟨_,rfl⟩;rw[hR]at HC⊢;obtain⟨ra,rs⟩:=R;clear hg h;go_enter Tryz.func58,Tryz.ntmps58
 go_wp2_with fail
 refine HC.out.mono ?_;rintro z w1 ⟨rfl,h1,st1⟩;obtain⟨S',hS'⟩:∃S':Nat→Prop,S'=S:=⟨_,rfl⟩;rw[show CRd b l x rs S w1↔CRd b l x rs S' w1 by rw[hS']]at h1;rw[show Stp S w S w1↔Stp S w S' w1 by rw[hS']]at st1;have hgS':¬S' g:=fun e=>hgS (st1.old g hlt e);have g1:=st1.fr.heap HG.out hgS;have rg1:=Zt g1 _ (Fr.refl _ _);have g2:=Za g1 11 (.string ⟨ra.toArray⟩);have h2:=h1.setg hgS' 11 (.string ⟨ra.toArray⟩);have st2:=(Stp.gs st1 hlt).trans (Stp.setg (S:=S') (g:=g) 11 (.string ⟨ra.toArray⟩));have G2:=hid g2;have H2:=hid h2;have ST2:=hid st2;clear g1 g2 h1 h2 st1 st2 rg;go_wp2;go_ret;exact⟨.nilIface,.slice none 0 0,S',rfl,G2.out,rfl,PrO.nil _ _,H2.out,ST2.out,hgS'⟩
theorem Znt(s:AdS)(w:World)(hl:l.length≤99000)(ha:s.at_≤l.length)(hm:s.marks.length≤100000)(hS:∀k,S k→k<w.heap.size)(hO:∀k,O k→k<w.heap.size)(hgO:O g)(hgS:¬S g)(W0:World)(hE:Env W0)(hW:Fr nob W0 w)(hSW:∀k,S k→W0.heap.size≤k)(hg:w.heap[g]? =some (.cells (cmd20 p g0 g1 g2 g3 g4 g5 g6 g7 g8 98 [] SV.zero .nilIface (.slice none 0 0) []) 35 (0,0)))(h:CRd b l x s S w):
 Calls Tryz.prog 58 #[.pointer (some ⟨b,0,none⟩),.pointer (some ⟨g,0,none⟩)] w (ZaP b g l x S O w p g0 g1 g2 g3 g4 g5 g6 g7 g8 98 (argsC x l (cv0 p gv 98) s)):=by
 rw[show argsC x l (cv0 p gv 98) s=(false,{cv0 p gv 98 with arg:=(labelC l false s).1},(labelC l false s).2)from rfl];have rg:=Zt hg _ (Fr.refl _ _);have hlt:=lt_heap hg;have H:=hid h;have HG:=hid hg;have HC:=hid (ZcW b l x false s S w hl ha h);obtain⟨R,hR⟩:∃R,labelC l false s=R:=⟨_,rfl⟩;rw[hR]at HC⊢;obtain⟨ra,rs⟩:=R;clear hg h;go_enter Tryz.func58,Tryz.ntmps58
 go_wp2_with fail
 refine HC.out.mono ?_;rintro z w1 ⟨rfl,h1,st1⟩;obtain⟨S',hS'⟩:∃S':Nat→Prop,S'=S:=⟨_,rfl⟩;rw[show CRd b l x rs S w1↔CRd b l x rs S' w1 by rw[hS']]at h1;rw[show Stp S w S w1↔Stp S w S' w1 by rw[hS']]at st1;have hgS':¬S' g:=fun e=>hgS (st1.old g hlt e);have g1:=st1.fr.heap HG.out hgS;have rg1:=Zt g1 _ (Fr.refl _ _);have g2:=Za g1 11 (.string ⟨ra.toArray⟩);have h2:=h1.setg hgS' 11 (.string ⟨ra.toArray⟩);have st2:=(Stp.gs st1 hlt).trans (Stp.setg (S:=S') (g:=g) 11 (.string ⟨ra.toArray⟩));have G2:=hid g2;have H2:=hid h2;have ST2:=hid st2;clear g1 g2 h1 h2 st1 st2 rg;go_wp2;go_ret;exact⟨.nilIface,.slice none 0 0,S',rfl,G2.out,rfl,PrO.nil _ _,H2.out,ST2.out,hgS'⟩
theorem ZmP(s:AdS)(w:World)(hl:l.length≤99000)(ha:s.at_≤l.length)(hm:s.marks.length≤100000)(hS:∀k,S k→k<w.heap.size)(hO:∀k,O k→k<w.heap.size)(hgO:O g)(hgS:¬S g)(W0:World)(hE:Env W0)(hW:Fr nob W0 w)(hSW:∀k,S k→W0.heap.size≤k)(hg:w.heap[g]? =some (.cells (cmd20 p g0 g1 g2 g3 g4 g5 g6 g7 g8 116 [] SV.zero .nilIface (.slice none 0 0) []) 35 (0,0)))(h:CRd b l x s S w):
 Calls Tryz.prog 58 #[.pointer (some ⟨b,0,none⟩),.pointer (some ⟨g,0,none⟩)] w (ZaP b g l x S O w p g0 g1 g2 g3 g4 g5 g6 g7 g8 116 (argsC x l (cv0 p gv 116) s)):=by
 rw[show argsC x l (cv0 p gv 116) s=(false,{cv0 p gv 116 with arg:=(labelC l false s).1},(labelC l false s).2)from rfl];have rg:=Zt hg _ (Fr.refl _ _);have hlt:=lt_heap hg;have H:=hid h;have HG:=hid hg;have HC:=hid (ZcW b l x false s S w hl ha h);obtain⟨R,hR⟩:∃R,labelC l false s=R:=⟨_,rfl⟩;rw[hR]at HC⊢;obtain⟨ra,rs⟩:=R;clear hg h;go_enter Tryz.func58,Tryz.ntmps58
 go_wp2_with fail
 refine HC.out.mono ?_;rintro z w1 ⟨rfl,h1,st1⟩;obtain⟨S',hS'⟩:∃S':Nat→Prop,S'=S:=⟨_,rfl⟩;rw[show CRd b l x rs S w1↔CRd b l x rs S' w1 by rw[hS']]at h1;rw[show Stp S w S w1↔Stp S w S' w1 by rw[hS']]at st1;have hgS':¬S' g:=fun e=>hgS (st1.old g hlt e);have g1:=st1.fr.heap HG.out hgS;have rg1:=Zt g1 _ (Fr.refl _ _);have g2:=Za g1 11 (.string ⟨ra.toArray⟩);have h2:=h1.setg hgS' 11 (.string ⟨ra.toArray⟩);have st2:=(Stp.gs st1 hlt).trans (Stp.setg (S:=S') (g:=g) 11 (.string ⟨ra.toArray⟩));have G2:=hid g2;have H2:=hid h2;have ST2:=hid st2;clear g1 g2 h1 h2 st1 st2 rg;go_wp2;go_ret;exact⟨.nilIface,.slice none 0 0,S',rfl,G2.out,rfl,PrO.nil _ _,H2.out,ST2.out,hgS'⟩
theorem Znu(s:AdS)(w:World)(hl:l.length≤99000)(ha:s.at_≤l.length)(hm:s.marks.length≤100000)(hS:∀k,S k→k<w.heap.size)(hO:∀k,O k→k<w.heap.size)(hgO:O g)(hgS:¬S g)(W0:World)(hE:Env W0)(hW:Fr nob W0 w)(hSW:∀k,S k→W0.heap.size≤k)(hg:w.heap[g]? =some (.cells (cmd20 p g0 g1 g2 g3 g4 g5 g6 g7 g8 84 [] SV.zero .nilIface (.slice none 0 0) []) 35 (0,0)))(h:CRd b l x s S w):
 Calls Tryz.prog 58 #[.pointer (some ⟨b,0,none⟩),.pointer (some ⟨g,0,none⟩)] w (ZaP b g l x S O w p g0 g1 g2 g3 g4 g5 g6 g7 g8 84 (argsC x l (cv0 p gv 84) s)):=by
 rw[show argsC x l (cv0 p gv 84) s=(false,{cv0 p gv 84 with arg:=(labelC l false s).1},(labelC l false s).2)from rfl];have rg:=Zt hg _ (Fr.refl _ _);have hlt:=lt_heap hg;have H:=hid h;have HG:=hid hg;have HC:=hid (ZcW b l x false s S w hl ha h);obtain⟨R,hR⟩:∃R,labelC l false s=R:=⟨_,rfl⟩;rw[hR]at HC⊢;obtain⟨ra,rs⟩:=R;clear hg h;go_enter Tryz.func58,Tryz.ntmps58
 go_wp2_with fail
 refine HC.out.mono ?_;rintro z w1 ⟨rfl,h1,st1⟩;obtain⟨S',hS'⟩:∃S':Nat→Prop,S'=S:=⟨_,rfl⟩;rw[show CRd b l x rs S w1↔CRd b l x rs S' w1 by rw[hS']]at h1;rw[show Stp S w S w1↔Stp S w S' w1 by rw[hS']]at st1;have hgS':¬S' g:=fun e=>hgS (st1.old g hlt e);have g1:=st1.fr.heap HG.out hgS;have rg1:=Zt g1 _ (Fr.refl _ _);have g2:=Za g1 11 (.string ⟨ra.toArray⟩);have h2:=h1.setg hgS' 11 (.string ⟨ra.toArray⟩);have st2:=(Stp.gs st1 hlt).trans (Stp.setg (S:=S') (g:=g) 11 (.string ⟨ra.toArray⟩));have G2:=hid g2;have H2:=hid h2;have ST2:=hid st2;clear g1 g2 h1 h2 st1 st2 rg;go_wp2;go_ret;exact⟨.nilIface,.slice none 0 0,S',rfl,G2.out,rfl,PrO.nil _ _,H2.out,ST2.out,hgS'⟩
theorem Znv(s:AdS)(w:World)(hl:l.length≤99000)(ha:s.at_≤l.length)(hm:s.marks.length≤100000)(hS:∀k,S k→k<w.heap.size)(hO:∀k,O k→k<w.heap.size)(hgO:O g)(hgS:¬S g)(W0:World)(hE:Env W0)(hW:Fr nob W0 w)(hSW:∀k,S k→W0.heap.size≤k)(hg:w.heap[g]? =some (.cells (cmd20 p g0 g1 g2 g3 g4 g5 g6 g7 g8 97 [] SV.zero .nilIface (.slice none 0 0) []) 35 (0,0)))(h:CRd b l x s S w):
 Calls Tryz.prog 58 #[.pointer (some ⟨b,0,none⟩),.pointer (some ⟨g,0,none⟩)] w (ZaP b g l x S O w p g0 g1 g2 g3 g4 g5 g6 g7 g8 97 (argsC x l (cv0 p gv 97) s)):=by
 rw[show argsC x l (cv0 p gv 97) s=(false,{cv0 p gv 97 with arg:=(Zab l p s).1},(Zab l p s).2)from rfl];have rg:=Zt hg _ (Fr.refl _ _);have hlt:=lt_heap hg;have H:=hid h;have HG:=hid hg;have HC:=hid (Zd9 b l x p s S w hl ha (by omega) h);obtain⟨R,hR⟩:∃R,Zab l p s=R:=⟨_,rfl⟩;rw[hR]at HC⊢;obtain⟨ra,rs⟩:=R;clear hg h;go_enter Tryz.func58,Tryz.ntmps58
 go_wp2_with fail
 refine HC.out.mono ?_;rintro z w1 ⟨rfl,S',h1,st1⟩;have hgS':¬S' g:=fun e=>hgS (st1.old g hlt e);have g1:=st1.fr.heap HG.out hgS;have rg1:=Zt g1 _ (Fr.refl _ _);have g2:=Za g1 11 (.string ⟨ra.toArray⟩);have h2:=h1.setg hgS' 11 (.string ⟨ra.toArray⟩);have st2:=(Stp.gs st1 hlt).trans (Stp.setg (S:=S') (g:=g) 11 (.string ⟨ra.toArray⟩));have G2:=hid g2;have H2:=hid h2;have ST2:=hid st2;clear g1 g2 h1 h2 st1 st2 rg;go_wp2;go_ret;exact⟨.nilIface,.slice none 0 0,S',rfl,G2.out,rfl,PrO.nil _ _,H2.out,ST2.out,hgS'⟩
theorem ZmQ(s:AdS)(w:World)(hl:l.length≤99000)(ha:s.at_≤l.length)(hm:s.marks.length≤100000)(hS:∀k,S k→k<w.heap.size)(hO:∀k,O k→k<w.heap.size)(hgO:O g)(hgS:¬S g)(W0:World)(hE:Env W0)(hW:Fr nob W0 w)(hSW:∀k,S k→W0.heap.size≤k)(hg:w.heap[g]? =some (.cells (cmd20 p g0 g1 g2 g3 g4 g5 g6 g7 g8 105 [] SV.zero .nilIface (.slice none 0 0) []) 35 (0,0)))(h:CRd b l x s S w):
 Calls Tryz.prog 58 #[.pointer (some ⟨b,0,none⟩),.pointer (some ⟨g,0,none⟩)] w (ZaP b g l x S O w p g0 g1 g2 g3 g4 g5 g6 g7 g8 105 (argsC x l (cv0 p gv 105) s)):=by
 rw[show argsC x l (cv0 p gv 105) s=(false,{cv0 p gv 105 with arg:=(Zab l p s).1},(Zab l p s).2)from rfl];have rg:=Zt hg _ (Fr.refl _ _);have hlt:=lt_heap hg;have H:=hid h;have HG:=hid hg;have HC:=hid (Zd9 b l x p s S w hl ha (by omega) h);obtain⟨R,hR⟩:∃R,Zab l p s=R:=⟨_,rfl⟩;rw[hR]at HC⊢;obtain⟨ra,rs⟩:=R;clear hg h;go_enter Tryz.func58,Tryz.ntmps58
 go_wp2_with fail
 refine HC.out.mono ?_;rintro z w1 ⟨rfl,S',h1,st1⟩;have hgS':¬S' g:=fun e=>hgS (st1.old g hlt e);have g1:=st1.fr.heap HG.out hgS;have rg1:=Zt g1 _ (Fr.refl _ _);have g2:=Za g1 11 (.string ⟨ra.toArray⟩);have h2:=h1.setg hgS' 11 (.string ⟨ra.toArray⟩);have st2:=(Stp.gs st1 hlt).trans (Stp.setg (S:=S') (g:=g) 11 (.string ⟨ra.toArray⟩));have G2:=hid g2;have H2:=hid h2;have ST2:=hid st2;clear g1 g2 h1 h2 st1 st2 rg;go_wp2;go_ret;exact⟨.nilIface,.slice none 0 0,S',rfl,G2.out,rfl,PrO.nil _ _,H2.out,ST2.out,hgS'⟩
theorem Znw(s:AdS)(w:World)(hl:l.length≤99000)(ha:s.at_≤l.length)(hm:s.marks.length≤100000)(hS:∀k,S k→k<w.heap.size)(hO:∀k,O k→k<w.heap.size)(hgO:O g)(hgS:¬S g)(W0:World)(hE:Env W0)(hW:Fr nob W0 w)(hSW:∀k,S k→W0.heap.size≤k)(hg:w.heap[g]? =some (.cells (cmd20 p g0 g1 g2 g3 g4 g5 g6 g7 g8 99 [] SV.zero .nilIface (.slice none 0 0) []) 35 (0,0)))(h:CRd b l x s S w):
 Calls Tryz.prog 58 #[.pointer (some ⟨b,0,none⟩),.pointer (some ⟨g,0,none⟩)] w (ZaP b g l x S O w p g0 g1 g2 g3 g4 g5 g6 g7 g8 99 (argsC x l (cv0 p gv 99) s)):=by
 rw[show argsC x l (cv0 p gv 99) s=(false,{cv0 p gv 99 with arg:=(Zab l p s).1},(Zab l p s).2)from rfl];have rg:=Zt hg _ (Fr.refl _ _);have hlt:=lt_heap hg;have H:=hid h;have HG:=hid hg;have HC:=hid (Zd9 b l x p s S w hl ha (by omega) h);obtain⟨R,hR⟩:∃R,Zab l p s=R:=⟨_,rfl⟩;rw[hR]at HC⊢;obtain⟨ra,rs⟩:=R;clear hg h;go_enter Tryz.func58,Tryz.ntmps58
 go_wp2_with fail
 refine HC.out.mono ?_;rintro z w1 ⟨rfl,S',h1,st1⟩;have hgS':¬S' g:=fun e=>hgS (st1.old g hlt e);have g1:=st1.fr.heap HG.out hgS;have rg1:=Zt g1 _ (Fr.refl _ _);have g2:=Za g1 11 (.string ⟨ra.toArray⟩);have h2:=h1.setg hgS' 11 (.string ⟨ra.toArray⟩);have st2:=(Stp.gs st1 hlt).trans (Stp.setg (S:=S') (g:=g) 11 (.string ⟨ra.toArray⟩));have G2:=hid g2;have H2:=hid h2;have ST2:=hid st2;clear g1 g2 h1 h2 st1 st2 rg;go_wp2;go_ret;exact⟨.nilIface,.slice none 0 0,S',rfl,G2.out,rfl,PrO.nil _ _,H2.out,ST2.out,hgS'⟩
theorem ZmR(s:AdS)(w:World)(hl:l.length≤99000)(ha:s.at_≤l.length)(hm:s.marks.length≤100000)(hS:∀k,S k→k<w.heap.size)(hO:∀k,O k→k<w.heap.size)(hgO:O g)(hgS:¬S g)(W0:World)(hE:Env W0)(hW:Fr nob W0 w)(hSW:∀k,S k→W0.heap.size≤k)(hg:w.heap[g]? =some (.cells (cmd20 p g0 g1 g2 g3 g4 g5 g6 g7 g8 114 [] SV.zero .nilIface (.slice none 0 0) []) 35 (0,0)))(h:CRd b l x s S w):
 Calls Tryz.prog 58 #[.pointer (some ⟨b,0,none⟩),.pointer (some ⟨g,0,none⟩)] w (ZaP b g l x S O w p g0 g1 g2 g3 g4 g5 g6 g7 g8 114 (argsC x l (cv0 p gv 114) s)):=by
 rw[show argsC x l (cv0 p gv 114) s=(false,{cv0 p gv 114 with arg:=(ZaC l s).1},(ZaC l s).2)from rfl];have rg:=Zt hg _ (Fr.refl _ _);have hlt:=lt_heap hg;have H:=hid h;have HG:=hid hg;have HC:=hid (Zgi b l x s S w hl ha h);obtain⟨R,hR⟩:∃R,ZaC l s=R:=⟨_,rfl⟩;rw[hR]at HC⊢;obtain⟨ra,rs⟩:=R;clear hg h;go_enter Tryz.func58,Tryz.ntmps58
 go_wp2_with fail
 refine HC.out.mono ?_;rintro z w1 ⟨rfl,h1,st1⟩;obtain⟨S',hS'⟩:∃S':Nat→Prop,S'=S:=⟨_,rfl⟩;rw[show CRd b l x rs S w1↔CRd b l x rs S' w1 by rw[hS']]at h1;rw[show Stp S w S w1↔Stp S w S' w1 by rw[hS']]at st1;have hgS':¬S' g:=fun e=>hgS (st1.old g hlt e);have g1:=st1.fr.heap HG.out hgS;have rg1:=Zt g1 _ (Fr.refl _ _);have g2:=Za g1 11 (.string ⟨ra.toArray⟩);have h2:=h1.setg hgS' 11 (.string ⟨ra.toArray⟩);have st2:=(Stp.gs st1 hlt).trans (Stp.setg (S:=S') (g:=g) 11 (.string ⟨ra.toArray⟩));have G2:=hid g2;have H2:=hid h2;have ST2:=hid st2;clear g1 g2 h1 h2 st1 st2 rg;go_wp2;go_ret;exact⟨.nilIface,.slice none 0 0,S',rfl,G2.out,rfl,PrO.nil _ _,H2.out,ST2.out,hgS'⟩
theorem ZmS(s:AdS)(w:World)(hl:l.length≤99000)(ha:s.at_≤l.length)(hm:s.marks.length≤100000)(hS:∀k,S k→k<w.heap.size)(hO:∀k,O k→k<w.heap.size)(hgO:O g)(hgS:¬S g)(W0:World)(hE:Env W0)(hW:Fr nob W0 w)(hSW:∀k,S k→W0.heap.size≤k)(hg:w.heap[g]? =some (.cells (cmd20 p g0 g1 g2 g3 g4 g5 g6 g7 g8 119 [] SV.zero .nilIface (.slice none 0 0) []) 35 (0,0)))(h:CRd b l x s S w):
 Calls Tryz.prog 58 #[.pointer (some ⟨b,0,none⟩),.pointer (some ⟨g,0,none⟩)] w (ZaP b g l x S O w p g0 g1 g2 g3 g4 g5 g6 g7 g8 119 (argsC x l (cv0 p gv 119) s)):=by
 rw[show argsC x l (cv0 p gv 119) s=(false,{cv0 p gv 119 with arg:=(ZaC l s).1},(ZaC l s).2)from rfl];have rg:=Zt hg _ (Fr.refl _ _);have hlt:=lt_heap hg;have H:=hid h;have HG:=hid hg;have HC:=hid (Zgi b l x s S w hl ha h);obtain⟨R,hR⟩:∃R,ZaC l s=R:=⟨_,rfl⟩;rw[hR]at HC⊢;obtain⟨ra,rs⟩:=R;clear hg h;go_enter Tryz.func58,Tryz.ntmps58
 go_wp2_with fail
 refine HC.out.mono ?_;rintro z w1 ⟨rfl,h1,st1⟩;obtain⟨S',hS'⟩:∃S':Nat→Prop,S'=S:=⟨_,rfl⟩;rw[show CRd b l x rs S w1↔CRd b l x rs S' w1 by rw[hS']]at h1;rw[show Stp S w S w1↔Stp S w S' w1 by rw[hS']]at st1;have hgS':¬S' g:=fun e=>hgS (st1.old g hlt e);have g1:=st1.fr.heap HG.out hgS;have rg1:=Zt g1 _ (Fr.refl _ _);have g2:=Za g1 11 (.string ⟨ra.toArray⟩);have h2:=h1.setg hgS' 11 (.string ⟨ra.toArray⟩);have st2:=(Stp.gs st1 hlt).trans (Stp.setg (S:=S') (g:=g) 11 (.string ⟨ra.toArray⟩));have G2:=hid g2;have H2:=hid h2;have ST2:=hid st2;clear g1 g2 h1 h2 st1 st2 rg;go_wp2;go_ret;exact⟨.nilIface,.slice none 0 0,S',rfl,G2.out,rfl,PrO.nil _ _,H2.out,ST2.out,hgS'⟩
theorem ZmT(s:AdS)(w:World)(hl:l.length≤99000)(ha:s.at_≤l.length)(hm:s.marks.length≤100000)(hS:∀k,S k→k<w.heap.size)(hO:∀k,O k→k<w.heap.size)(hgO:O g)(hgS:¬S g)(W0:World)(hE:Env W0)(hW:Fr nob W0 w)(hSW:∀k,S k→W0.heap.size≤k)(hg:w.heap[g]? =some (.cells (cmd20 p g0 g1 g2 g3 g4 g5 g6 g7 g8 121 [] SV.zero .nilIface (.slice none 0 0) []) 35 (0,0)))(h:CRd b l x s S w):
 Calls Tryz.prog 58 #[.pointer (some ⟨b,0,none⟩),.pointer (some ⟨g,0,none⟩)] w (ZaP b g l x S O w p g0 g1 g2 g3 g4 g5 g6 g7 g8 121 (argsC x l (cv0 p gv 121) s)):=by
 rw[show argsC x l (cv0 p gv 121) s=(true,{cv0 p gv 121 with table:=(ZaB l s).1},(ZaB l s).2)from rfl];have rg:=Zt hg _ (Fr.refl _ _);have hlt:=lt_heap hg;have H:=hid h;have HG:=hid hg;have HC:=hid (Zku b l x s S w hl ha hS h);obtain⟨R,hR⟩:∃R,ZaB l s=R:=⟨_,rfl⟩;rw[hR]at HC⊢;obtain⟨ra,rs⟩:=R;clear hg h;go_enter Tryz.func58,Tryz.ntmps58
 go_wp2_with fail
 refine HC.out.mono ?_;rintro z w1 ⟨rfl,h1,st1⟩;obtain⟨S',hS'⟩:∃S':Nat→Prop,S'=S:=⟨_,rfl⟩;rw[show CRd b l x rs S w1↔CRd b l x rs S' w1 by rw[hS']]at h1;rw[show Stp S w S w1↔Stp S w S' w1 by rw[hS']]at st1;have hgS':¬S' g:=fun e=>hgS (st1.old g hlt e);have g1:=st1.fr.heap HG.out hgS;have rg1:=Zt g1 _ (Fr.refl _ _);have g2:=Za g1 19 (.string ⟨ra.toArray⟩);have h2:=h1.setg hgS' 19 (.string ⟨ra.toArray⟩);have st2:=(Stp.gs st1 hlt).trans (Stp.setg (S:=S') (g:=g) 19 (.string ⟨ra.toArray⟩));have G2:=hid g2;have H2:=hid h2;have ST2:=hid st2;clear g1 g2 h1 h2 st1 st2 rg;go_wp2;go_ret;exact⟨.nilIface,.slice none 0 0,S',rfl,G2.out,rfl,PrO.nil _ _,H2.out,ST2.out,hgS'⟩
theorem ZmU(s:AdS)(w:World)(hl:l.length≤99000)(ha:s.at_≤l.length)(hm:s.marks.length≤100000)(hS:∀k,S k→k<w.heap.size)(hO:∀k,O k→k<w.heap.size)(hgO:O g)(hgS:¬S g)(W0:World)(hE:Env W0)(hW:Fr nob W0 w)(hSW:∀k,S k→W0.heap.size≤k)(hg:w.heap[g]? =some (.cells (cmd20 p g0 g1 g2 g3 g4 g5 g6 g7 g8 115 [] SV.zero .nilIface (.slice none 0 0) []) 35 (0,0)))(h:CRd b l x s S w):
 Calls Tryz.prog 58 #[.pointer (some ⟨b,0,none⟩),.pointer (some ⟨g,0,none⟩)] w (ZaP b g l x S O w p g0 g1 g2 g3 g4 g5 g6 g7 g8 115 (argsC x l (cv0 p gv 115) s)):=by
 rw[show argsC x l (cv0 p gv 115) s=((Zdo x l s).1.file==[],{cv0 p gv 115 with sub:=(Zdo x l s).1},(Zdo x l s).2)from rfl];have rg:=Zt hg _ (Fr.refl _ _);have hlt:=lt_heap hg;have H:=hid h;have HG:=hid hg;have HC:=hid (cm_sub b l x s S O w hl ha hm hS hO W0 hE hW hSW h);obtain⟨R,hR⟩:∃R,Zdo x l s=R:=⟨_,rfl⟩;rw[hR]at HC⊢;obtain⟨⟨tx,tr,pt,nth,al,pr,fi⟩,rs⟩:=R;simp only;have HGO:=hid hgO;clear hg h hgO;cases fi with
 |nil=>
  go_enter Tryz.func58,Tryz.ntmps58
  go_wp2_with fail
  refine HC.out.mono ?_;rintro z w1 ⟨u,pv,S',rfl,rn,po,h1,st1⟩;obtain⟨pa,pc,rfl⟩:=Zb po.1;rcases rn.shape with rfl|⟨iu,yu,rfl⟩
  ·have hgS':¬S' g:=fun e=>hgS (st1.old g hlt e);have g1:=st1.fr.heap HG.out hgS;have rg1:=Zt g1 _ (Fr.refl _ _);obtain⟨w2,hw2⟩:∃w2,w2=ZbP w1 g (.string ⟨tx.toArray⟩) .nilIface (.slice pa pt.length pc) (.int .i64 nth) (.bool al) (.bool pr) (.string ⟨#[]⟩):=⟨_,rfl⟩;have f2:Fr (fun k=>k=g) w1 w2:=by rw[hw2];exact ZbJ _ _ _ _ _ _ _ _ _
   have g2:=Zbt g1 (.string ⟨tx.toArray⟩) .nilIface (.slice pa pt.length pc) (.int .i64 nth) (.bool al) (.bool pr) (.string ⟨#[]⟩);rw[←hw2]at g2;have rg2:=Zt g2 _ (Fr.refl _ _);have h2:=h1.keep f2 (fun k hk e=>hgS' (by have hk:k=g:=hk;rw[←hk];exact e));have st2:Stp (GS S g) w (GS S' g) w2:=⟨(Stp.gs st1 hlt).fr.trans f2 (fun k hk e=>.inr e),(Stp.gs st1 hlt).old,fun q k hk=>Nat.lt_of_lt_of_le ((Stp.gs st1 hlt).lt q k hk) f2.size⟩;have rn2:=RN.keep f2 (fun k _ hk=>by have hk:k=g:=hk;rw[hk];exact .inr HGO.out) (fun _ _ hk=>hk) _ _ rn;have po2:=po.keep f2 (fun k hk=>by have hk:k=g:=hk;rw[hk];exact .inr HGO.out) (fun _ _ hk=>hk);dsimp only[ZbP]at hw2;have HW2:=hid hw2;have G2:=hid g2;have H2:=hid h2;have ST2:=hid st2;have RN2:=hid rn2;have PO2:=hid po2;clear g1 g2 h1 h2 st1 st2 rg rn rn2 po po2 hw2 f2
   go_wp2_with(rw[←HW2.out])
   go_ret
   (try rw[←HW2.out])
   exact⟨.nilIface,.slice pa pt.length pc,S',rfl,G2.out,RN2.out,PO2.out,H2.out,ST2.out,hgS'⟩
  ·have hgS':¬S' g:=fun e=>hgS (st1.old g hlt e);have g1:=st1.fr.heap HG.out hgS;have rg1:=Zt g1 _ (Fr.refl _ _);obtain⟨w2,hw2⟩:∃w2,w2=ZbP w1 g (.string ⟨tx.toArray⟩) (.iface iu yu) (.slice pa pt.length pc) (.int .i64 nth) (.bool al) (.bool pr) (.string ⟨#[]⟩):=⟨_,rfl⟩;have f2:Fr (fun k=>k=g) w1 w2:=by rw[hw2];exact ZbJ _ _ _ _ _ _ _ _ _
   have g2:=Zbt g1 (.string ⟨tx.toArray⟩) (.iface iu yu) (.slice pa pt.length pc) (.int .i64 nth) (.bool al) (.bool pr) (.string ⟨#[]⟩);rw[←hw2]at g2;have rg2:=Zt g2 _ (Fr.refl _ _);have h2:=h1.keep f2 (fun k hk e=>hgS' (by have hk:k=g:=hk;rw[←hk];exact e));have st2:Stp (GS S g) w (GS S' g) w2:=⟨(Stp.gs st1 hlt).fr.trans f2 (fun k hk e=>.inr e),(Stp.gs st1 hlt).old,fun q k hk=>Nat.lt_of_lt_of_le ((Stp.gs st1 hlt).lt q k hk) f2.size⟩;have rn2:=RN.keep f2 (fun k _ hk=>by have hk:k=g:=hk;rw[hk];exact .inr HGO.out) (fun _ _ hk=>hk) _ _ rn;have po2:=po.keep f2 (fun k hk=>by have hk:k=g:=hk;rw[hk];exact .inr HGO.out) (fun _ _ hk=>hk);dsimp only[ZbP]at hw2;have HW2:=hid hw2;have G2:=hid g2;have H2:=hid h2;have ST2:=hid st2;have RN2:=hid rn2;have PO2:=hid po2;clear g1 g2 h1 h2 st1 st2 rg rn rn2 po po2 hw2 f2
   go_wp2_with(rw[←HW2.out])
   go_ret
   (try rw[←HW2.out])
   exact⟨.iface iu yu,.slice pa pt.length pc,S',rfl,G2.out,RN2.out,PO2.out,H2.out,ST2.out,hgS'⟩
 |cons fc fr=>
  go_enter Tryz.func58,Tryz.ntmps58
  go_wp2_with fail
  refine HC.out.mono ?_;rintro z w1 ⟨u,pv,S',rfl,rn,po,h1,st1⟩;obtain⟨pa,pc,rfl⟩:=Zb po.1;rcases rn.shape with rfl|⟨iu,yu,rfl⟩
  ·have hgS':¬S' g:=fun e=>hgS (st1.old g hlt e);have g1:=st1.fr.heap HG.out hgS;have rg1:=Zt g1 _ (Fr.refl _ _);obtain⟨w2,hw2⟩:∃w2,w2=ZbP w1 g (.string ⟨tx.toArray⟩) .nilIface (.slice pa pt.length pc) (.int .i64 nth) (.bool al) (.bool pr) (.string ⟨(fc::fr).toArray⟩):=⟨_,rfl⟩;have f2:Fr (fun k=>k=g) w1 w2:=by rw[hw2];exact ZbJ _ _ _ _ _ _ _ _ _
   have g2:=Zbt g1 (.string ⟨tx.toArray⟩) .nilIface (.slice pa pt.length pc) (.int .i64 nth) (.bool al) (.bool pr) (.string ⟨(fc::fr).toArray⟩);rw[←hw2]at g2;have rg2:=Zt g2 _ (Fr.refl _ _);have h2:=h1.keep f2 (fun k hk e=>hgS' (by have hk:k=g:=hk;rw[←hk];exact e));have st2:Stp (GS S g) w (GS S' g) w2:=⟨(Stp.gs st1 hlt).fr.trans f2 (fun k hk e=>.inr e),(Stp.gs st1 hlt).old,fun q k hk=>Nat.lt_of_lt_of_le ((Stp.gs st1 hlt).lt q k hk) f2.size⟩;have rn2:=RN.keep f2 (fun k _ hk=>by have hk:k=g:=hk;rw[hk];exact .inr HGO.out) (fun _ _ hk=>hk) _ _ rn;have po2:=po.keep f2 (fun k hk=>by have hk:k=g:=hk;rw[hk];exact .inr HGO.out) (fun _ _ hk=>hk);dsimp only[ZbP]at hw2;have HW2:=hid hw2;have G2:=hid g2;have H2:=hid h2;have ST2:=hid st2;have RN2:=hid rn2;have PO2:=hid po2;clear g1 g2 h1 h2 st1 st2 rg rn rn2 po po2 hw2 f2
   go_wp2_with(rw[←HW2.out])
   go_ret
   (try rw[←HW2.out])
   exact⟨.nilIface,.slice pa pt.length pc,S',rfl,G2.out,RN2.out,PO2.out,H2.out,ST2.out,hgS'⟩
  ·have hgS':¬S' g:=fun e=>hgS (st1.old g hlt e);have g1:=st1.fr.heap HG.out hgS;have rg1:=Zt g1 _ (Fr.refl _ _);obtain⟨w2,hw2⟩:∃w2,w2=ZbP w1 g (.string ⟨tx.toArray⟩) (.iface iu yu) (.slice pa pt.length pc) (.int .i64 nth) (.bool al) (.bool pr) (.string ⟨(fc::fr).toArray⟩):=⟨_,rfl⟩;have f2:Fr (fun k=>k=g) w1 w2:=by rw[hw2];exact ZbJ _ _ _ _ _ _ _ _ _
   have g2:=Zbt g1 (.string ⟨tx.toArray⟩) (.iface iu yu) (.slice pa pt.length pc) (.int .i64 nth) (.bool al) (.bool pr) (.string ⟨(fc::fr).toArray⟩);rw[←hw2]at g2;have rg2:=Zt g2 _ (Fr.refl _ _);have h2:=h1.keep f2 (fun k hk e=>hgS' (by have hk:k=g:=hk;rw[←hk];exact e));have st2:Stp (GS S g) w (GS S' g) w2:=⟨(Stp.gs st1 hlt).fr.trans f2 (fun k hk e=>.inr e),(Stp.gs st1 hlt).old,fun q k hk=>Nat.lt_of_lt_of_le ((Stp.gs st1 hlt).lt q k hk) f2.size⟩;have rn2:=RN.keep f2 (fun k _ hk=>by have hk:k=g:=hk;rw[hk];exact .inr HGO.out) (fun _ _ hk=>hk) _ _ rn;have po2:=po.keep f2 (fun k hk=>by have hk:k=g:=hk;rw[hk];exact .inr HGO.out) (fun _ _ hk=>hk);dsimp only[ZbP]at hw2;have HW2:=hid hw2;have G2:=hid g2;have H2:=hid h2;have ST2:=hid st2;have RN2:=hid rn2;have PO2:=hid po2;clear g1 g2 h1 h2 st1 st2 rg rn rn2 po po2 hw2 f2
   go_wp2_with(rw[←HW2.out])
   go_ret
   (try rw[←HW2.out])
   exact⟨.iface iu yu,.slice pa pt.length pc,S',rfl,G2.out,RN2.out,PO2.out,H2.out,ST2.out,hgS'⟩
theorem Zkv(n:UInt8)(s:AdS)(w:World)(hl:l.length≤99000)(ha:s.at_≤l.length)(hm:s.marks.length≤100000)(hS:∀k,S k→k<w.heap.size)(hO:∀k,O k→k<w.heap.size)(hgO:O g)(hgS:¬S g)(W0:World)(hE:Env W0)(hW:Fr nob W0 w)(hSW:∀k,S k→W0.heap.size≤k)(hg:w.heap[g]? =some (.cells (cmd20 p g0 g1 g2 g3 g4 g5 g6 g7 g8 n [] SV.zero .nilIface (.slice none 0 0) []) 35 (0,0)))(h:CRd b l x s S w)(n123:n≠123)(n125:n≠125)(n58:n≠58)(n98:n≠98)(n116:n≠116)(n84:n≠84)(n97:n≠97)(n105:n≠105)(n99:n≠99)(n114:n≠114)(n119:n≠119)(n115:n≠115)(n121:n≠121):
 Calls Tryz.prog 58 #[.pointer (some ⟨b,0,none⟩),.pointer (some ⟨g,0,none⟩)] w (ZaP b g l x S O w p g0 g1 g2 g3 g4 g5 g6 g7 g8 n (argsC x l (cv0 p gv n) s)):=by
 rw[show argsC x l (cv0 p gv n) s=(true,cv0 p gv n,s) by
  unfold argsC;simp only[n123,n125,n58,n98,n116,n84,n97,n105,n99,n114,n119,n115,n121,or_self,if_false]]
 have rg:=Zt hg _ (Fr.refl _ _);have H:=hid h;have HG:=hid hg;have q123:((n.toNat:Int)==123)=false:=Zbe n123;have q125:((n.toNat:Int)==125)=false:=Zbe n125;have q58:((n.toNat:Int)==58)=false:=Zbe n58;have q98:((n.toNat:Int)==98)=false:=Zbe n98;have q116:((n.toNat:Int)==116)=false:=Zbe n116;have q84:((n.toNat:Int)==84)=false:=Zbe n84;have q97:((n.toNat:Int)==97)=false:=Zbe n97;have q105:((n.toNat:Int)==105)=false:=Zbe n105;have q99:((n.toNat:Int)==99)=false:=Zbe n99;have q114:((n.toNat:Int)==114)=false:=Zbe n114;have q119:((n.toNat:Int)==119)=false:=Zbe n119;have q115:((n.toNat:Int)==115)=false:=Zbe n115;have q121:((n.toNat:Int)==121)=false:=Zbe n121;clear n123 n125 n58 n98 n116 n84 n97 n105 n99 n114 n119 n115 n121 hg h;go_enter Tryz.func58,Tryz.ntmps58;go_wp2;go_ret;exact⟨.nilIface,.slice none 0 0,S,rfl,HG.out,rfl,PrO.nil _ _,H.out,Stp.refl _ _,hgS⟩
theorem Zjf(n:UInt8)(s:AdS)(w:World)(hl:l.length≤99000)(ha:s.at_≤l.length)(hm:s.marks.length≤100000)(hS:∀k,S k→k<w.heap.size)(hO:∀k,O k→k<w.heap.size)(hgO:O g)(hgS:¬S g)(W0:World)(hE:Env W0)(hW:Fr nob W0 w)(hSW:∀k,S k→W0.heap.size≤k)(hg:w.heap[g]? =some (.cells (cmd20 p g0 g1 g2 g3 g4 g5 g6 g7 g8 n [] SV.zero .nilIface (.slice none 0 0) []) 35 (0,0)))(h:CRd b l x s S w):
 Calls Tryz.prog 58 #[.pointer (some ⟨b,0,none⟩),.pointer (some ⟨g,0,none⟩)] w (ZaP b g l x S O w p g0 g1 g2 g3 g4 g5 g6 g7 g8 n (argsC x l (cv0 p gv n) s)):=by
 by_cases n123:n=123
 ·subst n123;exact ZmN b g l x S O p gv g0 g1 g2 g3 g4 g5 g6 g7 g8 s w hl ha hm hS hO hgO hgS W0 hE hW hSW hg h
 by_cases n125:n=125
 ·subst n125;exact ZmO b g l x S O p gv g0 g1 g2 g3 g4 g5 g6 g7 g8 s w hl ha hm hS hO hgO hgS W0 hE hW hSW hg h
 by_cases n58:n=58
 ·subst n58;exact Zns b g l x S O p gv g0 g1 g2 g3 g4 g5 g6 g7 g8 s w hl ha hm hS hO hgO hgS W0 hE hW hSW hg h
 by_cases n98:n=98
 ·subst n98;exact Znt b g l x S O p gv g0 g1 g2 g3 g4 g5 g6 g7 g8 s w hl ha hm hS hO hgO hgS W0 hE hW hSW hg h
 by_cases n116:n=116
 ·subst n116;exact ZmP b g l x S O p gv g0 g1 g2 g3 g4 g5 g6 g7 g8 s w hl ha hm hS hO hgO hgS W0 hE hW hSW hg h
 by_cases n84:n=84
 ·subst n84;exact Znu b g l x S O p gv g0 g1 g2 g3 g4 g5 g6 g7 g8 s w hl ha hm hS hO hgO hgS W0 hE hW hSW hg h
 by_cases n97:n=97
 ·subst n97;exact Znv b g l x S O p gv g0 g1 g2 g3 g4 g5 g6 g7 g8 s w hl ha hm hS hO hgO hgS W0 hE hW hSW hg h
 by_cases n105:n=105
 ·subst n105;exact ZmQ b g l x S O p gv g0 g1 g2 g3 g4 g5 g6 g7 g8 s w hl ha hm hS hO hgO hgS W0 hE hW hSW hg h
 by_cases n99:n=99
 ·subst n99;exact Znw b g l x S O p gv g0 g1 g2 g3 g4 g5 g6 g7 g8 s w hl ha hm hS hO hgO hgS W0 hE hW hSW hg h
 by_cases n114:n=114
 ·subst n114;exact ZmR b g l x S O p gv g0 g1 g2 g3 g4 g5 g6 g7 g8 s w hl ha hm hS hO hgO hgS W0 hE hW hSW hg h
 by_cases n119:n=119
 ·subst n119;exact ZmS b g l x S O p gv g0 g1 g2 g3 g4 g5 g6 g7 g8 s w hl ha hm hS hO hgO hgS W0 hE hW hSW hg h
 by_cases n115:n=115
 ·subst n115;exact ZmU b g l x S O p gv g0 g1 g2 g3 g4 g5 g6 g7 g8 s w hl ha hm hS hO hgO hgS W0 hE hW hSW hg h
 by_cases n121:n=121
 ·subst n121;exact ZmT b g l x S O p gv g0 g1 g2 g3 g4 g5 g6 g7 g8 s w hl ha hm hS hO hgO hgS W0 hE hW hSW hg h
 exact Zkv b g l x S O p gv g0 g1 g2 g3 g4 g5 g6 g7 g8 n s w hl ha hm hS hO hgO hgS W0 hE hW hSW hg h n123 n125 n58 n98 n116 n84 n97 n105 n99 n114 n119 n115 n121
end
end Go.Proofs.YtkfddjopbocpkaaGreatDoor
namespace Go.Proofs.YtkfddjopbocpkaaGreatDoor
open Go.Lib (hid)
open Go.RowKit
theorem Zo{w:World}{k:Nat}{o:Obj}(h:w.heap[k]? =some o):w.drew.heap[k]? =some o:=h
abbrev B5(w:World)(b:Nat)(v0 v1 v2 v3 v4:Value):Prop:=w.cell? ⟨b,0,none⟩=some v0∧w.cell? ⟨b,1,none⟩=some v1∧w.cell? ⟨b,2,none⟩=some v2∧w.cell? ⟨b,3,none⟩=some v3∧w.cell? ⟨b,4,none⟩=some v4
section
variable {w:World} {b k j:Nat} {v0 v1 v2 v3 v4:Value}
theorem B5.of{T:TypeId}{fr:Nat×Nat}(h:w.heap[b]? =some (.cells #[v0,v1,v2,v3,v4] T fr)):B5 w b v0 v1 v2 v3 v4:=⟨cell_at h rfl,cell_at h rfl,cell_at h rfl,cell_at h rfl,cell_at h rfl⟩
theorem B5.drew(h:B5 w b v0 v1 v2 v3 v4):B5 w.drew b v0 v1 v2 v3 v4:=h
theorem B5.set(h:B5 w b v0 v1 v2 v3 v4)(hb:k≠b)(u:Value):B5 (w.setCell ⟨k,j,none⟩ u) b v0 v1 v2 v3 v4:=⟨Zl h.1 hb,Zl h.2.1 hb,Zl h.2.2.1 hb,Zl h.2.2.2.1 hb,Zl h.2.2.2.2 hb⟩
end
theorem Zjg(l:List UInt8)(p:Nat)(x:BF)(w:World)(hl:l.length≤99000)(hp:p≤l.length)(hE:Env w)(z:Int)(q:Nat)(hR:ZU x l ⟨p,[],0⟩=.inl (z,q)):
 Calls Tryz.prog 29 #[.string ⟨l.toArray⟩,.int .i64 (p:Nat),.bool x] w fun e w'=>e=.returned (.tuple #[.agg zG,.slice none 0 0,.int .i64 (q:Nat),.int .i64 z])∧Fr nob w w':=by
 have hz0:¬z=0:=guardD_err hR;have hz1:(z==0)=false:=by simpa using hz0
 have hz2:(z !=0)=true:=by simpa using hz0
 obtain⟨w1,hw1⟩:∃w1,w1=w.alloc (.cells zG 30):=⟨_,rfl⟩;have f1:Fr nob w w1:=by rw[hw1];exact(Fr.refl _ _).alloc _
 have hz:w1.heap[w.heap.size]? =some (.cells zG 30 (0,0)):=by rw[hw1];exact newAt _ _
 have hs1:w1.heap.size=w.heap.size+1:=by rw[hw1];simp
 obtain⟨w2,hw2⟩:∃w2,w2=w1.alloc (.cells #[.string ⟨l.toArray⟩,.int .i64 (p:Nat),.bool x,.slice none 0 0,.int .i64 0] 116):=⟨_,rfl⟩;have f2:Fr nob w1 w2:=by rw[hw2];exact(Fr.refl _ _).alloc _
 have hb:w2.heap[w.heap.size+1]? =some (.cells #[.string ⟨l.toArray⟩,.int .i64 (p:Nat),.bool x,.slice none 0 0,.int .i64 0] 116 (0,0)):=by
  rw[hw2,←hs1];exact newAt _ _
 have hs2:w2.heap.size=w.heap.size+2:=by rw[hw2];simp[hs1]
 have hA:ARd (w.heap.size+1) l x ⟨p,[],0⟩ (fun k=>k=w.heap.size+1) w2:=⟨.slice none 0 0,⟨hb,World.ownsRow_nil _ _ _ _,fun _ h=>(by cases h),rfl⟩⟩;have hG:=ZgT (w.heap.size+1) l x p (fun k=>k=w.heap.size+1) (fun k=>k=w.heap.size) w2 hl hp (fun k hk=>by omega) (fun k hk=>by omega) w hE (f1.trans' f2) (fun k hk=>by omega) hA;rw[hR]at hG;have hz':=f2.heap hz (fun x=>x);have q1:¬(l.length:Int)<(p:Int):=by omega
 have HG:=hid hG;have HW1:=hid hw1;have HW2:=hid hw2;have F12:=hid (f1.trans' f2);have HZ:=hid hz';have HS2:=hid hs2;have HS1:=hid hs1;clear hG hw1 hw2 f1 f2 hz hz' hb hA hs1 hs2 hE hR;go_enter Tryz.func29,Tryz.ntmps29
 go_wp2_with(first|rw[←HW1.out]|rw[HS1.out]|rw[←HW2.out])
 refine HG.out.mono ?_;intro e w3 he;obtain⟨gv,v,S',ms,rfl,⟨u1,u2,rfl,rn1,rn2⟩,hA3,st3⟩:=he;obtain⟨mv3,h3⟩:=hA3;have hz3:=st3.fr.heap HZ.out (fun h=>by omega);have hrb:w.heap.size≠w.heap.size+1:=by omega
 have FF:=hid (F12.out.trans st3.fr (fun i hi h=>by omega));obtain⟨w4,hw4⟩:∃w4,w4=w3.alloc (.cells #[.int .i64 gv.a.kind,.int .i64 gv.a.line,.string ⟨gv.a.text.toArray⟩,u1,.int .i64 gv.b.kind,.int .i64 gv.b.line,.string ⟨gv.b.text.toArray⟩,u2,.bool gv.no] 30):=⟨_,rfl⟩;have f4:Fr nob w3 w4:=by rw[hw4];exact(Fr.refl _ _).alloc _
 have hb4:=f4.heap h3.blk (fun x=>x);have hz4:=f4.heap hz3 (fun x=>x);have r4:=Zd hb4 _ (Fr.refl _ _);have HQ:=hid (B5.of hb4);have HQd:=hid (B5.drew (B5.of hb4));have rz:=Zj hz4;have HW4:=hid hw4;have HZ4:=hid hz4;have FF4:=hid (FF.out.trans' f4);have sh1:=rn1.shape;have sh2:=rn2.shape;clear rn1 rn2 hw4 f4 hb4 hz4 h3 hz3 st3;rcases sh1 with rfl|⟨i1,y1,rfl⟩
 all_goals rcases sh2 with rfl|⟨i2,y2,rfl⟩
 all_goals
  go_wp2_with(rw[←HW4.out])
  go_region_held3 (fun w'=>B5 w' (w.heap.size+1) (.string ⟨l.toArray⟩) (.int .i64 (q:Nat)) (.bool x) mv3 (.int .i64 z)) (repeat(first|(with_reducible exact HQ.out)|(with_reducible exact HQd.out)|(with_reducible refine B5.set ?_ (by omega) _)|(with_reducible refine B5.drew ?_))) (fail)
 all_goals
  obtain⟨w5,hw5⟩:∃w5,w5=(((((((((w4.setCell ⟨w.heap.size,0,none⟩ (.int .i64 0)).setCell ⟨w.heap.size,1,none⟩ (.int .i64 0)).setCell ⟨w.heap.size,2,none⟩ (.string ⟨#[]⟩)).setCell ⟨w.heap.size,3,none⟩ .nilIface).setCell ⟨w.heap.size,4,none⟩ (.int .i64 0)).setCell ⟨w.heap.size,5,none⟩ (.int .i64 0)).setCell ⟨w.heap.size,6,none⟩ (.string ⟨#[]⟩)).setCell ⟨w.heap.size,7,none⟩ .nilIface).setCell ⟨w.heap.size,8,none⟩ (.bool false)).drew:=⟨_,rfl⟩;rw[←hw5];have hz5:w5.heap[w.heap.size]? =some (.cells zG 30 (0,0)):=by rw[hw5];exact Zo (Zf HZ4.out (.int .i64 0) (.int .i64 0) (.string ⟨#[]⟩) .nilIface (.int .i64 0) (.int .i64 0) (.string ⟨#[]⟩) .nilIface (.bool false))
  have ff5:Fr nob w w5:=by rw[hw5];exact(Zhu FF4.out (Nat.le_refl _) (.int .i64 0) (.int .i64 0) (.string ⟨#[]⟩) .nilIface (.int .i64 0) (.int .i64 0) (.string ⟨#[]⟩) .nilIface (.bool false)).drew
  have HZ5:=hid hz5;have FF5:=hid ff5;clear hw5 hz5 ff5 rz r4;go_wp2
  (try simp only[Exit.inBlock,Exit.then])
  exact bodyPost_ret (Zbb rfl rfl HZ5.out) rfl ⟨rfl,FF5.out⟩
end Go.Proofs.YtkfddjopbocpkaaGreatDoor
