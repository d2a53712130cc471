/- Lemmas of this claim. -/
import Derived.Test.YtkfddjopbocpkaaGreatDoorM24
set_option linter.unusedVariables false
set_option linter.unusedSimpArgs false
set_option maxRecDepth 100000
set_option maxHeartbeats 4000000
namespace Go.Proofs.YtkfddjopbocpkaaGreatDoor
open Go.Lib (hid)
open Go.RowKit
abbrev cmd20(p:Nat)(g0 g1 g2 g3 g4 g5 g6 g7 g8:Value)(n:UInt8)(arg:List UInt8)(s:SV)(u pv:Value)(tb:List UInt8):Array Value:=
 #[.int .i64 (p:Nat),g0,g1,g2,g3,g4,g5,g6,g7,g8,.int .u8 (n.toNat:Int),.string ⟨arg.toArray⟩,.string ⟨s.text.toArray⟩,u,pv,.int .i64 s.nth,.bool s.all,.bool s.print,.string ⟨s.file.toArray⟩,.string ⟨tb.toArray⟩]
theorem Zw{w:World}{b:Nat}{v0 v1 v2 v3 v4 v5 v6 v7 v8 v9 v10 v11 v12 v13 v14 v15 v16 v17 v18 v19:Value}{T:TypeId}(h:w.heap[b]? =some (.cells #[v0,v1,v2,v3,v4,v5,v6,v7,v8,v9,v10,v11,v12,v13,v14,v15,v16,v17,v18,v19] T (0,0))):∀w',Fr nob w w'→
 (w'.cell? ⟨b,0,none⟩=some v0∧w'.cell? ⟨b,10,none⟩=some v10∧w'.cell? ⟨b,11,none⟩=some v11∧w'.cell? ⟨b,12,none⟩=some v12∧w'.cell? ⟨b,13,none⟩=some v13∧w'.cell? ⟨b,14,none⟩=some v14∧w'.cell? ⟨b,15,none⟩=some v15∧w'.cell? ⟨b,16,none⟩=some v16∧w'.cell? ⟨b,17,none⟩=some v17∧w'.cell? ⟨b,18,none⟩=some v18∧w'.cell? ⟨b,19,none⟩=some v19)∧(w'.frozen? ⟨b,11,none⟩=false∧w'.frozen? ⟨b,12,none⟩=false∧w'.frozen? ⟨b,13,none⟩=false∧w'.frozen? ⟨b,14,none⟩=false∧w'.frozen? ⟨b,15,none⟩=false∧w'.frozen? ⟨b,16,none⟩=false∧w'.frozen? ⟨b,17,none⟩=false∧w'.frozen? ⟨b,18,none⟩=false∧w'.frozen? ⟨b,19,none⟩=false):=fun _ f=>by
 have h':=f.heap h (fun x=>x);exact⟨⟨cell_at h' rfl,cell_at h' rfl,cell_at h' rfl,cell_at h' rfl,cell_at h' rfl,cell_at h' rfl,cell_at h' rfl,cell_at h' rfl,cell_at h' rfl,cell_at h' rfl,cell_at h' rfl⟩,unfrozen_at h' _,unfrozen_at h' _,unfrozen_at h' _,unfrozen_at h' _,unfrozen_at h' _,unfrozen_at h' _,unfrozen_at h' _,unfrozen_at h' _,unfrozen_at h' _⟩
theorem ZbD{n:UInt8}{k:Nat}{hk:UInt8}(h:n≠hk)(he:hk.toNat=k:=by rfl):((n.toNat:Int)==(k:Int))=false:=by
 have:n.toNat≠k:=fun e=>h (UInt8.toNat_inj.1 (by omega));simp;omega
abbrev Zcw(w:World)(g:Nat)(x0 x1 x2 x3 x4 x5 x6:Value):World:=(((((((w.setCell ⟨g,12,none⟩ x0).setCell ⟨g,13,none⟩ x1).setCell ⟨g,14,none⟩ x2).setCell ⟨g,15,none⟩ x3).setCell ⟨g,16,none⟩ x4).setCell ⟨g,17,none⟩ x5).setCell ⟨g,18,none⟩ x6)
theorem Zcl(w:World)(g:Nat)(x0 x1 x2 x3 x4 x5 x6:Value):Fr (fun k=>k=g) w (Zcw w g x0 x1 x2 x3 x4 x5 x6):=by
 have h:∀(x:World) (j:Nat) (v:Value),Fr (fun k=>k=g) w x→Fr (fun k=>k=g) w (x.setCell ⟨g,j,none⟩ v):=fun x j v hx=>hx.setCell (p:=⟨g,j,none⟩) (fun _=>rfl) v;exact h _ _ _ (h _ _ _ (h _ _ _ (h _ _ _ (h _ _ _ (h _ _ _ (h _ _ _ (Fr.refl _ _)))))))
theorem ZbU{w:World}{g:Nat}{a0 a1 a2 a3 a4 a5 a6 a7 a8 a9 a10 a11 a12 a13 a14 a15 a16 a17 a18 a19:Value}{T:TypeId}(h:w.heap[g]? =some (.cells #[a0,a1,a2,a3,a4,a5,a6,a7,a8,a9,a10,a11,a12,a13,a14,a15,a16,a17,a18,a19] T (0,0)))(x0 x1 x2 x3 x4 x5 x6:Value):
 (Zcw w g x0 x1 x2 x3 x4 x5 x6).heap[g]? =some (.cells #[a0,a1,a2,a3,a4,a5,a6,a7,a8,a9,a10,a11,x0,x1,x2,x3,x4,x5,x6,a19] T (0,0)):=by
 have h0:=Za h 12 x0;have h1:=Za h0 13 x1;have h2:=Za h1 14 x2;have h3:=Za h2 15 x3;have h4:=Za h3 16 x4;have h5:=Za h4 17 x5;have h6:=Za h5 18 x6;simpa using h6
def Zbb(b g:Nat)(l:List UInt8)(x:Bool)(S O:Nat→Prop)(w:World)(p:Nat)(g0 g1 g2 g3 g4 g5 g6 g7 g8:Value)(n:UInt8)(R:Bool×CV×AdS)(r:Ending)(w':World):Prop:=
 ∃u pv S',r=.returned (.bool R.1)∧w'.heap[g]? =some (.cells (cmd20 p g0 g1 g2 g3 g4 g5 g6 g7 g8 n R.2.1.arg R.2.1.sub u pv R.2.1.table) 35 (0,0))∧RN (SO S' O) w' R.2.1.sub.tree u∧PrO (SO S' O) w' R.2.1.sub.parts pv∧CRd b l x R.2.2 S' w'∧Stp (GS S g) w (GS S' g) w'∧¬S' g
abbrev cv0(p:Nat)(gv:GV)(n:UInt8):CV:=⟨p,gv,n,[],SV.zero,[]⟩
section
variable (b g:Nat) (l:List UInt8) (x:Bool) (S O:Nat→Prop) (p:Nat) (gv:GV) (g0 g1 g2 g3 g4 g5 g6 g7 g8:Value)
theorem ZpR(s:AdS)(w:World)(hl:l.length≤99000)(ha:s.at_≤l.length)(hm:s.marks.length≤100000)(hS:∀k,S k→k<w.heap.size)(hO:∀k,O k→k<w.heap.size)(hgO:O g)(hgS:¬S g)(W0:World)(hE:Env W0)(hW:Fr nob W0 w)(hSW:∀k,S k→W0.heap.size≤k)(hg:w.heap[g]? =some (.cells (cmd20 p g0 g1 g2 g3 g4 g5 g6 g7 g8 123 [] SV.zero .nilIface (.slice none 0 0) []) 35 (0,0)))(h:CRd b l x s S w):
 Calls Tryz.prog 58 #[.pointer (some ⟨b,0,none⟩),.pointer (some ⟨g,0,none⟩)] w (Zbb b g l x S O w p g0 g1 g2 g3 g4 g5 g6 g7 g8 123 (argsC x l (cv0 p gv 123) s)):=by
 rw[show argsC x l (cv0 p gv 123) s=(false,cv0 p gv 123,s)from rfl];have rg:=Zw hg _ (Fr.refl _ _);have hlt:=lt_heap hg;have H:=hid h;have HG:=hid hg;go_enter Tryz.func58,Tryz.ntmps58;go_wp2;go_ret;exact⟨.nilIface,.slice none 0 0,S,rfl,HG.out,rfl,PrO.nil _ _,H.out,Stp.refl _ _,hgS⟩
theorem ZpS(s:AdS)(w:World)(hl:l.length≤99000)(ha:s.at_≤l.length)(hm:s.marks.length≤100000)(hS:∀k,S k→k<w.heap.size)(hO:∀k,O k→k<w.heap.size)(hgO:O g)(hgS:¬S g)(W0:World)(hE:Env W0)(hW:Fr nob W0 w)(hSW:∀k,S k→W0.heap.size≤k)(hg:w.heap[g]? =some (.cells (cmd20 p g0 g1 g2 g3 g4 g5 g6 g7 g8 125 [] SV.zero .nilIface (.slice none 0 0) []) 35 (0,0)))(h:CRd b l x s S w):
 Calls Tryz.prog 58 #[.pointer (some ⟨b,0,none⟩),.pointer (some ⟨g,0,none⟩)] w (Zbb b g l x S O w p g0 g1 g2 g3 g4 g5 g6 g7 g8 125 (argsC x l (cv0 p gv 125) s)):=by
 rw[show argsC x l (cv0 p gv 125) s=(false,cv0 p gv 125,s)from rfl];have rg:=Zw hg _ (Fr.refl _ _);have hlt:=lt_heap hg;have H:=hid h;have HG:=hid hg;go_enter Tryz.func58,Tryz.ntmps58;go_wp2;go_ret;exact⟨.nilIface,.slice none 0 0,S,rfl,HG.out,rfl,PrO.nil _ _,H.out,Stp.refl _ _,hgS⟩
theorem ZqF(s:AdS)(w:World)(hl:l.length≤99000)(ha:s.at_≤l.length)(hm:s.marks.length≤100000)(hS:∀k,S k→k<w.heap.size)(hO:∀k,O k→k<w.heap.size)(hgO:O g)(hgS:¬S g)(W0:World)(hE:Env W0)(hW:Fr nob W0 w)(hSW:∀k,S k→W0.heap.size≤k)(hg:w.heap[g]? =some (.cells (cmd20 p g0 g1 g2 g3 g4 g5 g6 g7 g8 58 [] SV.zero .nilIface (.slice none 0 0) []) 35 (0,0)))(h:CRd b l x s S w):
 Calls Tryz.prog 58 #[.pointer (some ⟨b,0,none⟩),.pointer (some ⟨g,0,none⟩)] w (Zbb b g l x S O w p g0 g1 g2 g3 g4 g5 g6 g7 g8 58 (argsC x l (cv0 p gv 58) s)):=by
 rw[show argsC x l (cv0 p gv 58) s=(false,{cv0 p gv 58 with arg:=(labelC l true s).1},(labelC l true s).2)from rfl];have rg:=Zw hg _ (Fr.refl _ _);have hlt:=lt_heap hg;have H:=hid h;have HG:=hid hg;have HC:=hid (ZdR b l x true s S w hl ha h);obtain⟨R,hR⟩:∃R,labelC l true s=R:=⟨_,rfl⟩;rw[hR]at HC⊢;obtain⟨ra,rs⟩:=R;clear hg h;go_enter Tryz.func58,Tryz.ntmps58;go_wp2_with fail;refine HC.out.mono ?_;rintro z w1 ⟨rfl,h1,st1⟩;obtain⟨S',hS'⟩:∃S':Nat→Prop,S'=S:=⟨_,rfl⟩;rw[show CRd b l x rs S w1↔CRd b l x rs S' w1 by rw[hS']]at h1;rw[show Stp S w S w1↔Stp S w S' w1 by rw[hS']]at st1;have hgS':¬S' g:=fun e=>hgS (st1.old g hlt e);have g1:=st1.fr.heap HG.out hgS;have rg1:=Zw g1 _ (Fr.refl _ _);have g2:=Za g1 11 (.string ⟨ra.toArray⟩);have h2:=h1.setg hgS' 11 (.string ⟨ra.toArray⟩);have st2:=(Stp.gs st1 hlt).trans (Stp.setg (S:=S') (g:=g) 11 (.string ⟨ra.toArray⟩));have G2:=hid g2;have H2:=hid h2;have ST2:=hid st2
 clear g1 g2 h1 h2 st1 st2 rg;go_wp2;go_ret;exact⟨.nilIface,.slice none 0 0,S',rfl,G2.out,rfl,PrO.nil _ _,H2.out,ST2.out,hgS'⟩
theorem ZqG(s:AdS)(w:World)(hl:l.length≤99000)(ha:s.at_≤l.length)(hm:s.marks.length≤100000)(hS:∀k,S k→k<w.heap.size)(hO:∀k,O k→k<w.heap.size)(hgO:O g)(hgS:¬S g)(W0:World)(hE:Env W0)(hW:Fr nob W0 w)(hSW:∀k,S k→W0.heap.size≤k)(hg:w.heap[g]? =some (.cells (cmd20 p g0 g1 g2 g3 g4 g5 g6 g7 g8 98 [] SV.zero .nilIface (.slice none 0 0) []) 35 (0,0)))(h:CRd b l x s S w):
 Calls Tryz.prog 58 #[.pointer (some ⟨b,0,none⟩),.pointer (some ⟨g,0,none⟩)] w (Zbb b g l x S O w p g0 g1 g2 g3 g4 g5 g6 g7 g8 98 (argsC x l (cv0 p gv 98) s)):=by
 rw[show argsC x l (cv0 p gv 98) s=(false,{cv0 p gv 98 with arg:=(labelC l false s).1},(labelC l false s).2)from rfl];have rg:=Zw hg _ (Fr.refl _ _);have hlt:=lt_heap hg;have H:=hid h;have HG:=hid hg;have HC:=hid (ZdR b l x false s S w hl ha h);obtain⟨R,hR⟩:∃R,labelC l false s=R:=⟨_,rfl⟩;rw[hR]at HC⊢;obtain⟨ra,rs⟩:=R;clear hg h;go_enter Tryz.func58,Tryz.ntmps58;go_wp2_with fail;refine HC.out.mono ?_;rintro z w1 ⟨rfl,h1,st1⟩;obtain⟨S',hS'⟩:∃S':Nat→Prop,S'=S:=⟨_,rfl⟩;rw[show CRd b l x rs S w1↔CRd b l x rs S' w1 by rw[hS']]at h1;rw[show Stp S w S w1↔Stp S w S' w1 by rw[hS']]at st1;have hgS':¬S' g:=fun e=>hgS (st1.old g hlt e);have g1:=st1.fr.heap HG.out hgS;have rg1:=Zw g1 _ (Fr.refl _ _);have g2:=Za g1 11 (.string ⟨ra.toArray⟩);have h2:=h1.setg hgS' 11 (.string ⟨ra.toArray⟩);have st2:=(Stp.gs st1 hlt).trans (Stp.setg (S:=S') (g:=g) 11 (.string ⟨ra.toArray⟩));have G2:=hid g2;have H2:=hid h2;have ST2:=hid st2
 clear g1 g2 h1 h2 st1 st2 rg;go_wp2;go_ret;exact⟨.nilIface,.slice none 0 0,S',rfl,G2.out,rfl,PrO.nil _ _,H2.out,ST2.out,hgS'⟩
theorem ZpT(s:AdS)(w:World)(hl:l.length≤99000)(ha:s.at_≤l.length)(hm:s.marks.length≤100000)(hS:∀k,S k→k<w.heap.size)(hO:∀k,O k→k<w.heap.size)(hgO:O g)(hgS:¬S g)(W0:World)(hE:Env W0)(hW:Fr nob W0 w)(hSW:∀k,S k→W0.heap.size≤k)(hg:w.heap[g]? =some (.cells (cmd20 p g0 g1 g2 g3 g4 g5 g6 g7 g8 116 [] SV.zero .nilIface (.slice none 0 0) []) 35 (0,0)))(h:CRd b l x s S w):
 Calls Tryz.prog 58 #[.pointer (some ⟨b,0,none⟩),.pointer (some ⟨g,0,none⟩)] w (Zbb b g l x S O w p g0 g1 g2 g3 g4 g5 g6 g7 g8 116 (argsC x l (cv0 p gv 116) s)):=by
 rw[show argsC x l (cv0 p gv 116) s=(false,{cv0 p gv 116 with arg:=(labelC l false s).1},(labelC l false s).2)from rfl];have rg:=Zw hg _ (Fr.refl _ _);have hlt:=lt_heap hg;have H:=hid h;have HG:=hid hg;have HC:=hid (ZdR b l x false s S w hl ha h);obtain⟨R,hR⟩:∃R,labelC l false s=R:=⟨_,rfl⟩;rw[hR]at HC⊢;obtain⟨ra,rs⟩:=R;clear hg h;go_enter Tryz.func58,Tryz.ntmps58;go_wp2_with fail;refine HC.out.mono ?_;rintro z w1 ⟨rfl,h1,st1⟩;obtain⟨S',hS'⟩:∃S':Nat→Prop,S'=S:=⟨_,rfl⟩;rw[show CRd b l x rs S w1↔CRd b l x rs S' w1 by rw[hS']]at h1;rw[show Stp S w S w1↔Stp S w S' w1 by rw[hS']]at st1;have hgS':¬S' g:=fun e=>hgS (st1.old g hlt e);have g1:=st1.fr.heap HG.out hgS;have rg1:=Zw g1 _ (Fr.refl _ _);have g2:=Za g1 11 (.string ⟨ra.toArray⟩);have h2:=h1.setg hgS' 11 (.string ⟨ra.toArray⟩);have st2:=(Stp.gs st1 hlt).trans (Stp.setg (S:=S') (g:=g) 11 (.string ⟨ra.toArray⟩));have G2:=hid g2;have H2:=hid h2;have ST2:=hid st2
 clear g1 g2 h1 h2 st1 st2 rg;go_wp2;go_ret;exact⟨.nilIface,.slice none 0 0,S',rfl,G2.out,rfl,PrO.nil _ _,H2.out,ST2.out,hgS'⟩
theorem ZqH(s:AdS)(w:World)(hl:l.length≤99000)(ha:s.at_≤l.length)(hm:s.marks.length≤100000)(hS:∀k,S k→k<w.heap.size)(hO:∀k,O k→k<w.heap.size)(hgO:O g)(hgS:¬S g)(W0:World)(hE:Env W0)(hW:Fr nob W0 w)(hSW:∀k,S k→W0.heap.size≤k)(hg:w.heap[g]? =some (.cells (cmd20 p g0 g1 g2 g3 g4 g5 g6 g7 g8 84 [] SV.zero .nilIface (.slice none 0 0) []) 35 (0,0)))(h:CRd b l x s S w):
 Calls Tryz.prog 58 #[.pointer (some ⟨b,0,none⟩),.pointer (some ⟨g,0,none⟩)] w (Zbb b g l x S O w p g0 g1 g2 g3 g4 g5 g6 g7 g8 84 (argsC x l (cv0 p gv 84) s)):=by
 rw[show argsC x l (cv0 p gv 84) s=(false,{cv0 p gv 84 with arg:=(labelC l false s).1},(labelC l false s).2)from rfl];have rg:=Zw hg _ (Fr.refl _ _);have hlt:=lt_heap hg;have H:=hid h;have HG:=hid hg;have HC:=hid (ZdR b l x false s S w hl ha h);obtain⟨R,hR⟩:∃R,labelC l false s=R:=⟨_,rfl⟩;rw[hR]at HC⊢;obtain⟨ra,rs⟩:=R;clear hg h;go_enter Tryz.func58,Tryz.ntmps58;go_wp2_with fail;refine HC.out.mono ?_;rintro z w1 ⟨rfl,h1,st1⟩;obtain⟨S',hS'⟩:∃S':Nat→Prop,S'=S:=⟨_,rfl⟩;rw[show CRd b l x rs S w1↔CRd b l x rs S' w1 by rw[hS']]at h1;rw[show Stp S w S w1↔Stp S w S' w1 by rw[hS']]at st1;have hgS':¬S' g:=fun e=>hgS (st1.old g hlt e);have g1:=st1.fr.heap HG.out hgS;have rg1:=Zw g1 _ (Fr.refl _ _);have g2:=Za g1 11 (.string ⟨ra.toArray⟩);have h2:=h1.setg hgS' 11 (.string ⟨ra.toArray⟩);have st2:=(Stp.gs st1 hlt).trans (Stp.setg (S:=S') (g:=g) 11 (.string ⟨ra.toArray⟩));have G2:=hid g2;have H2:=hid h2;have ST2:=hid st2
 clear g1 g2 h1 h2 st1 st2 rg;go_wp2;go_ret;exact⟨.nilIface,.slice none 0 0,S',rfl,G2.out,rfl,PrO.nil _ _,H2.out,ST2.out,hgS'⟩
theorem ZqI(s:AdS)(w:World)(hl:l.length≤99000)(ha:s.at_≤l.length)(hm:s.marks.length≤100000)(hS:∀k,S k→k<w.heap.size)(hO:∀k,O k→k<w.heap.size)(hgO:O g)(hgS:¬S g)(W0:World)(hE:Env W0)(hW:Fr nob W0 w)(hSW:∀k,S k→W0.heap.size≤k)(hg:w.heap[g]? =some (.cells (cmd20 p g0 g1 g2 g3 g4 g5 g6 g7 g8 97 [] SV.zero .nilIface (.slice none 0 0) []) 35 (0,0)))(h:CRd b l x s S w):
 Calls Tryz.prog 58 #[.pointer (some ⟨b,0,none⟩),.pointer (some ⟨g,0,none⟩)] w (Zbb b g l x S O w p g0 g1 g2 g3 g4 g5 g6 g7 g8 97 (argsC x l (cv0 p gv 97) s)):=by
 rw[show argsC x l (cv0 p gv 97) s=(false,{cv0 p gv 97 with arg:=(Zah l p s).1},(Zah l p s).2)from rfl];have rg:=Zw hg _ (Fr.refl _ _);have hlt:=lt_heap hg;have H:=hid h;have HG:=hid hg;have HC:=hid (Zfq b l x p s S w hl ha (by omega) h);obtain⟨R,hR⟩:∃R,Zah l p s=R:=⟨_,rfl⟩;rw[hR]at HC⊢;obtain⟨ra,rs⟩:=R;clear hg h;go_enter Tryz.func58,Tryz.ntmps58;go_wp2_with fail;refine HC.out.mono ?_;rintro z w1 ⟨rfl,S',h1,st1⟩;have hgS':¬S' g:=fun e=>hgS (st1.old g hlt e);have g1:=st1.fr.heap HG.out hgS;have rg1:=Zw g1 _ (Fr.refl _ _);have g2:=Za g1 11 (.string ⟨ra.toArray⟩);have h2:=h1.setg hgS' 11 (.string ⟨ra.toArray⟩);have st2:=(Stp.gs st1 hlt).trans (Stp.setg (S:=S') (g:=g) 11 (.string ⟨ra.toArray⟩));have G2:=hid g2;have H2:=hid h2;have ST2:=hid st2;clear g1 g2 h1 h2 st1 st2 rg;go_wp2;go_ret;exact⟨.nilIface,.slice none 0 0,S',rfl,G2.out,rfl,PrO.nil _ _,H2.out,ST2.out,hgS'⟩
theorem ZpU(s:AdS)(w:World)(hl:l.length≤99000)(ha:s.at_≤l.length)(hm:s.marks.length≤100000)(hS:∀k,S k→k<w.heap.size)(hO:∀k,O k→k<w.heap.size)(hgO:O g)(hgS:¬S g)(W0:World)(hE:Env W0)(hW:Fr nob W0 w)(hSW:∀k,S k→W0.heap.size≤k)(hg:w.heap[g]? =some (.cells (cmd20 p g0 g1 g2 g3 g4 g5 g6 g7 g8 105 [] SV.zero .nilIface (.slice none 0 0) []) 35 (0,0)))(h:CRd b l x s S w):
 Calls Tryz.prog 58 #[.pointer (some ⟨b,0,none⟩),.pointer (some ⟨g,0,none⟩)] w (Zbb b g l x S O w p g0 g1 g2 g3 g4 g5 g6 g7 g8 105 (argsC x l (cv0 p gv 105) s)):=by
 rw[show argsC x l (cv0 p gv 105) s=(false,{cv0 p gv 105 with arg:=(Zah l p s).1},(Zah l p s).2)from rfl];have rg:=Zw hg _ (Fr.refl _ _);have hlt:=lt_heap hg;have H:=hid h;have HG:=hid hg;have HC:=hid (Zfq b l x p s S w hl ha (by omega) h);obtain⟨R,hR⟩:∃R,Zah l p s=R:=⟨_,rfl⟩;rw[hR]at HC⊢;obtain⟨ra,rs⟩:=R;clear hg h;go_enter Tryz.func58,Tryz.ntmps58;go_wp2_with fail;refine HC.out.mono ?_;rintro z w1 ⟨rfl,S',h1,st1⟩;have hgS':¬S' g:=fun e=>hgS (st1.old g hlt e);have g1:=st1.fr.heap HG.out hgS;have rg1:=Zw g1 _ (Fr.refl _ _);have g2:=Za g1 11 (.string ⟨ra.toArray⟩);have h2:=h1.setg hgS' 11 (.string ⟨ra.toArray⟩);have st2:=(Stp.gs st1 hlt).trans (Stp.setg (S:=S') (g:=g) 11 (.string ⟨ra.toArray⟩));have G2:=hid g2;have H2:=hid h2;have ST2:=hid st2;clear g1 g2 h1 h2 st1 st2 rg;go_wp2;go_ret;exact⟨.nilIface,.slice none 0 0,S',rfl,G2.out,rfl,PrO.nil _ _,H2.out,ST2.out,hgS'⟩
theorem ZqJ(s:AdS)(w:World)(hl:l.length≤99000)(ha:s.at_≤l.length)(hm:s.marks.length≤100000)(hS:∀k,S k→k<w.heap.size)(hO:∀k,O k→k<w.heap.size)(hgO:O g)(hgS:¬S g)(W0:World)(hE:Env W0)(hW:Fr nob W0 w)(hSW:∀k,S k→W0.heap.size≤k)(hg:w.heap[g]? =some (.cells (cmd20 p g0 g1 g2 g3 g4 g5 g6 g7 g8 99 [] SV.zero .nilIface (.slice none 0 0) []) 35 (0,0)))(h:CRd b l x s S w):
 Calls Tryz.prog 58 #[.pointer (some ⟨b,0,none⟩),.pointer (some ⟨g,0,none⟩)] w (Zbb b g l x S O w p g0 g1 g2 g3 g4 g5 g6 g7 g8 99 (argsC x l (cv0 p gv 99) s)):=by
 rw[show argsC x l (cv0 p gv 99) s=(false,{cv0 p gv 99 with arg:=(Zah l p s).1},(Zah l p s).2)from rfl];have rg:=Zw hg _ (Fr.refl _ _);have hlt:=lt_heap hg;have H:=hid h;have HG:=hid hg;have HC:=hid (Zfq b l x p s S w hl ha (by omega) h);obtain⟨R,hR⟩:∃R,Zah l p s=R:=⟨_,rfl⟩;rw[hR]at HC⊢;obtain⟨ra,rs⟩:=R;clear hg h;go_enter Tryz.func58,Tryz.ntmps58;go_wp2_with fail;refine HC.out.mono ?_;rintro z w1 ⟨rfl,S',h1,st1⟩;have hgS':¬S' g:=fun e=>hgS (st1.old g hlt e);have g1:=st1.fr.heap HG.out hgS;have rg1:=Zw g1 _ (Fr.refl _ _);have g2:=Za g1 11 (.string ⟨ra.toArray⟩);have h2:=h1.setg hgS' 11 (.string ⟨ra.toArray⟩);have st2:=(Stp.gs st1 hlt).trans (Stp.setg (S:=S') (g:=g) 11 (.string ⟨ra.toArray⟩));have G2:=hid g2;have H2:=hid h2;have ST2:=hid st2;clear g1 g2 h1 h2 st1 st2 rg;go_wp2;go_ret;exact⟨.nilIface,.slice none 0 0,S',rfl,G2.out,rfl,PrO.nil _ _,H2.out,ST2.out,hgS'⟩
theorem ZpV(s:AdS)(w:World)(hl:l.length≤99000)(ha:s.at_≤l.length)(hm:s.marks.length≤100000)(hS:∀k,S k→k<w.heap.size)(hO:∀k,O k→k<w.heap.size)(hgO:O g)(hgS:¬S g)(W0:World)(hE:Env W0)(hW:Fr nob W0 w)(hSW:∀k,S k→W0.heap.size≤k)(hg:w.heap[g]? =some (.cells (cmd20 p g0 g1 g2 g3 g4 g5 g6 g7 g8 114 [] SV.zero .nilIface (.slice none 0 0) []) 35 (0,0)))(h:CRd b l x s S w):
 Calls Tryz.prog 58 #[.pointer (some ⟨b,0,none⟩),.pointer (some ⟨g,0,none⟩)] w (Zbb b g l x S O w p g0 g1 g2 g3 g4 g5 g6 g7 g8 114 (argsC x l (cv0 p gv 114) s)):=by
 rw[show argsC x l (cv0 p gv 114) s=(false,{cv0 p gv 114 with arg:=(ZaR l s).1},(ZaR l s).2)from rfl];have rg:=Zw hg _ (Fr.refl _ _);have hlt:=lt_heap hg;have H:=hid h;have HG:=hid hg;have HC:=hid (ZhT b l x s S w hl ha h);obtain⟨R,hR⟩:∃R,ZaR l s=R:=⟨_,rfl⟩;rw[hR]at HC⊢;obtain⟨ra,rs⟩:=R;clear hg h;go_enter Tryz.func58,Tryz.ntmps58;go_wp2_with fail;refine HC.out.mono ?_;rintro z w1 ⟨rfl,h1,st1⟩;obtain⟨S',hS'⟩:∃S':Nat→Prop,S'=S:=⟨_,rfl⟩;rw[show CRd b l x rs S w1↔CRd b l x rs S' w1 by rw[hS']]at h1;rw[show Stp S w S w1↔Stp S w S' w1 by rw[hS']]at st1;have hgS':¬S' g:=fun e=>hgS (st1.old g hlt e);have g1:=st1.fr.heap HG.out hgS;have rg1:=Zw g1 _ (Fr.refl _ _);have g2:=Za g1 11 (.string ⟨ra.toArray⟩);have h2:=h1.setg hgS' 11 (.string ⟨ra.toArray⟩);have st2:=(Stp.gs st1 hlt).trans (Stp.setg (S:=S') (g:=g) 11 (.string ⟨ra.toArray⟩));have G2:=hid g2;have H2:=hid h2;have ST2:=hid st2
 clear g1 g2 h1 h2 st1 st2 rg;go_wp2;go_ret;exact⟨.nilIface,.slice none 0 0,S',rfl,G2.out,rfl,PrO.nil _ _,H2.out,ST2.out,hgS'⟩
theorem ZpW(s:AdS)(w:World)(hl:l.length≤99000)(ha:s.at_≤l.length)(hm:s.marks.length≤100000)(hS:∀k,S k→k<w.heap.size)(hO:∀k,O k→k<w.heap.size)(hgO:O g)(hgS:¬S g)(W0:World)(hE:Env W0)(hW:Fr nob W0 w)(hSW:∀k,S k→W0.heap.size≤k)(hg:w.heap[g]? =some (.cells (cmd20 p g0 g1 g2 g3 g4 g5 g6 g7 g8 119 [] SV.zero .nilIface (.slice none 0 0) []) 35 (0,0)))(h:CRd b l x s S w):
 Calls Tryz.prog 58 #[.pointer (some ⟨b,0,none⟩),.pointer (some ⟨g,0,none⟩)] w (Zbb b g l x S O w p g0 g1 g2 g3 g4 g5 g6 g7 g8 119 (argsC x l (cv0 p gv 119) s)):=by
 rw[show argsC x l (cv0 p gv 119) s=(false,{cv0 p gv 119 with arg:=(ZaR l s).1},(ZaR l s).2)from rfl];have rg:=Zw hg _ (Fr.refl _ _);have hlt:=lt_heap hg;have H:=hid h;have HG:=hid hg;have HC:=hid (ZhT b l x s S w hl ha h);obtain⟨R,hR⟩:∃R,ZaR l s=R:=⟨_,rfl⟩;rw[hR]at HC⊢;obtain⟨ra,rs⟩:=R;clear hg h;go_enter Tryz.func58,Tryz.ntmps58;go_wp2_with fail;refine HC.out.mono ?_;rintro z w1 ⟨rfl,h1,st1⟩;obtain⟨S',hS'⟩:∃S':Nat→Prop,S'=S:=⟨_,rfl⟩;rw[show CRd b l x rs S w1↔CRd b l x rs S' w1 by rw[hS']]at h1;rw[show Stp S w S w1↔Stp S w S' w1 by rw[hS']]at st1;have hgS':¬S' g:=fun e=>hgS (st1.old g hlt e);have g1:=st1.fr.heap HG.out hgS;have rg1:=Zw g1 _ (Fr.refl _ _);have g2:=Za g1 11 (.string ⟨ra.toArray⟩);have h2:=h1.setg hgS' 11 (.string ⟨ra.toArray⟩);have st2:=(Stp.gs st1 hlt).trans (Stp.setg (S:=S') (g:=g) 11 (.string ⟨ra.toArray⟩));have G2:=hid g2;have H2:=hid h2;have ST2:=hid st2
 clear g1 g2 h1 h2 st1 st2 rg;go_wp2;go_ret;exact⟨.nilIface,.slice none 0 0,S',rfl,G2.out,rfl,PrO.nil _ _,H2.out,ST2.out,hgS'⟩
theorem ZpX(s:AdS)(w:World)(hl:l.length≤99000)(ha:s.at_≤l.length)(hm:s.marks.length≤100000)(hS:∀k,S k→k<w.heap.size)(hO:∀k,O k→k<w.heap.size)(hgO:O g)(hgS:¬S g)(W0:World)(hE:Env W0)(hW:Fr nob W0 w)(hSW:∀k,S k→W0.heap.size≤k)(hg:w.heap[g]? =some (.cells (cmd20 p g0 g1 g2 g3 g4 g5 g6 g7 g8 121 [] SV.zero .nilIface (.slice none 0 0) []) 35 (0,0)))(h:CRd b l x s S w):
 Calls Tryz.prog 58 #[.pointer (some ⟨b,0,none⟩),.pointer (some ⟨g,0,none⟩)] w (Zbb b g l x S O w p g0 g1 g2 g3 g4 g5 g6 g7 g8 121 (argsC x l (cv0 p gv 121) s)):=by
 rw[show argsC x l (cv0 p gv 121) s=(true,{cv0 p gv 121 with table:=(ZaP l s).1},(ZaP l s).2)from rfl];have rg:=Zw hg _ (Fr.refl _ _);have hlt:=lt_heap hg;have H:=hid h;have HG:=hid hg;have HC:=hid (ZmR b l x s S w hl ha hS h);obtain⟨R,hR⟩:∃R,ZaP l s=R:=⟨_,rfl⟩;rw[hR]at HC⊢;obtain⟨ra,rs⟩:=R;clear hg h;go_enter Tryz.func58,Tryz.ntmps58;go_wp2_with fail;refine HC.out.mono ?_;rintro z w1 ⟨rfl,h1,st1⟩;obtain⟨S',hS'⟩:∃S':Nat→Prop,S'=S:=⟨_,rfl⟩;rw[show CRd b l x rs S w1↔CRd b l x rs S' w1 by rw[hS']]at h1;rw[show Stp S w S w1↔Stp S w S' w1 by rw[hS']]at st1;have hgS':¬S' g:=fun e=>hgS (st1.old g hlt e);have g1:=st1.fr.heap HG.out hgS;have rg1:=Zw g1 _ (Fr.refl _ _);have g2:=Za g1 19 (.string ⟨ra.toArray⟩);have h2:=h1.setg hgS' 19 (.string ⟨ra.toArray⟩);have st2:=(Stp.gs st1 hlt).trans (Stp.setg (S:=S') (g:=g) 19 (.string ⟨ra.toArray⟩));have G2:=hid g2;have H2:=hid h2;have ST2:=hid st2
 clear g1 g2 h1 h2 st1 st2 rg;go_wp2;go_ret;exact⟨.nilIface,.slice none 0 0,S',rfl,G2.out,rfl,PrO.nil _ _,H2.out,ST2.out,hgS'⟩
theorem ZpY(s:AdS)(w:World)(hl:l.length≤99000)(ha:s.at_≤l.length)(hm:s.marks.length≤100000)(hS:∀k,S k→k<w.heap.size)(hO:∀k,O k→k<w.heap.size)(hgO:O g)(hgS:¬S g)(W0:World)(hE:Env W0)(hW:Fr nob W0 w)(hSW:∀k,S k→W0.heap.size≤k)(hg:w.heap[g]? =some (.cells (cmd20 p g0 g1 g2 g3 g4 g5 g6 g7 g8 115 [] SV.zero .nilIface (.slice none 0 0) []) 35 (0,0)))(h:CRd b l x s S w):
 Calls Tryz.prog 58 #[.pointer (some ⟨b,0,none⟩),.pointer (some ⟨g,0,none⟩)] w (Zbb b g l x S O w p g0 g1 g2 g3 g4 g5 g6 g7 g8 115 (argsC x l (cv0 p gv 115) s)):=by
 rw[show argsC x l (cv0 p gv 115) s=((Zet x l s).1.file==[],{cv0 p gv 115 with sub:=(Zet x l s).1},(Zet x l s).2)from rfl];have rg:=Zw hg _ (Fr.refl _ _);have hlt:=lt_heap hg;have H:=hid h;have HG:=hid hg;have HC:=hid (cm_sub b l x s S O w hl ha hm hS hO W0 hE hW hSW h);obtain⟨R,hR⟩:∃R,Zet x l s=R:=⟨_,rfl⟩;rw[hR]at HC⊢;obtain⟨⟨tx,tr,pt,nth,al,pr,fi⟩,rs⟩:=R;simp only;have HGO:=hid hgO;clear hg h hgO;cases fi with
 |nil=>
  go_enter Tryz.func58,Tryz.ntmps58;go_wp2_with fail;refine HC.out.mono ?_;rintro z w1 ⟨u,pv,S',rfl,rn,po,h1,st1⟩;obtain⟨pa,pc,rfl⟩:=Zb po.1;rcases rn.shape with rfl|⟨iu,yu,rfl⟩
  ·have hgS':¬S' g:=fun e=>hgS (st1.old g hlt e);have g1:=st1.fr.heap HG.out hgS;have rg1:=Zw g1 _ (Fr.refl _ _);obtain⟨w2,hw2⟩:∃w2,w2=Zcw w1 g (.string ⟨tx.toArray⟩) .nilIface (.slice pa pt.length pc) (.int .i64 nth) (.bool al) (.bool pr) (.string ⟨#[]⟩):=⟨_,rfl⟩;have f2:Fr (fun k=>k=g) w1 w2:=by rw[hw2];exact Zcl _ _ _ _ _ _ _ _ _
   have g2:=ZbU g1 (.string ⟨tx.toArray⟩) .nilIface (.slice pa pt.length pc) (.int .i64 nth) (.bool al) (.bool pr) (.string ⟨#[]⟩);rw[←hw2]at g2;have rg2:=Zw g2 _ (Fr.refl _ _);have h2:=h1.keep f2 (fun k hk e=>hgS' (by have hk:k=g:=hk;rw[←hk];exact e));have st2:Stp (GS S g) w (GS S' g) w2:=⟨(Stp.gs st1 hlt).fr.trans f2 (fun k hk e=>.inr e),(Stp.gs st1 hlt).old,fun q k hk=>Nat.lt_of_lt_of_le ((Stp.gs st1 hlt).lt q k hk) f2.size⟩;have rn2:=RN.keep f2 (fun k _ hk=>by have hk:k=g:=hk;rw[hk];exact .inr HGO.out) (fun _ _ hk=>hk) _ _ rn;have po2:=po.keep f2 (fun k hk=>by have hk:k=g:=hk;rw[hk];exact .inr HGO.out) (fun _ _ hk=>hk);dsimp only[Zcw]at hw2;have HW2:=hid hw2;have G2:=hid g2;have H2:=hid h2;have ST2:=hid st2;have RN2:=hid rn2;have PO2:=hid po2;clear g1 g2 h1 h2 st1 st2 rg rn rn2 po po2 hw2 f2;go_wp2_with(rw[←HW2.out]);go_ret;(try rw[←HW2.out]);exact⟨.nilIface,.slice pa pt.length pc,S',rfl,G2.out,RN2.out,PO2.out,H2.out,ST2.out,hgS'⟩
  ·have hgS':¬S' g:=fun e=>hgS (st1.old g hlt e);have g1:=st1.fr.heap HG.out hgS;have rg1:=Zw g1 _ (Fr.refl _ _);obtain⟨w2,hw2⟩:∃w2,w2=Zcw w1 g (.string ⟨tx.toArray⟩) (.iface iu yu) (.slice pa pt.length pc) (.int .i64 nth) (.bool al) (.bool pr) (.string ⟨#[]⟩):=⟨_,rfl⟩;have f2:Fr (fun k=>k=g) w1 w2:=by rw[hw2];exact Zcl _ _ _ _ _ _ _ _ _
   have g2:=ZbU g1 (.string ⟨tx.toArray⟩) (.iface iu yu) (.slice pa pt.length pc) (.int .i64 nth) (.bool al) (.bool pr) (.string ⟨#[]⟩);rw[←hw2]at g2;have rg2:=Zw g2 _ (Fr.refl _ _);have h2:=h1.keep f2 (fun k hk e=>hgS' (by have hk:k=g:=hk;rw[←hk];exact e));have st2:Stp (GS S g) w (GS S' g) w2:=⟨(Stp.gs st1 hlt).fr.trans f2 (fun k hk e=>.inr e),(Stp.gs st1 hlt).old,fun q k hk=>Nat.lt_of_lt_of_le ((Stp.gs st1 hlt).lt q k hk) f2.size⟩;have rn2:=RN.keep f2 (fun k _ hk=>by have hk:k=g:=hk;rw[hk];exact .inr HGO.out) (fun _ _ hk=>hk) _ _ rn;have po2:=po.keep f2 (fun k hk=>by have hk:k=g:=hk;rw[hk];exact .inr HGO.out) (fun _ _ hk=>hk);dsimp only[Zcw]at hw2;have HW2:=hid hw2;have G2:=hid g2;have H2:=hid h2;have ST2:=hid st2;have RN2:=hid rn2;have PO2:=hid po2;clear g1 g2 h1 h2 st1 st2 rg rn rn2 po po2 hw2 f2;go_wp2_with(rw[←HW2.out]);go_ret;(try rw[←HW2.out]);exact⟨.iface iu yu,.slice pa pt.length pc,S',rfl,G2.out,RN2.out,PO2.out,H2.out,ST2.out,hgS'⟩
 |cons fc fr=>
  go_enter Tryz.func58,Tryz.ntmps58;go_wp2_with fail;refine HC.out.mono ?_;rintro z w1 ⟨u,pv,S',rfl,rn,po,h1,st1⟩;obtain⟨pa,pc,rfl⟩:=Zb po.1;rcases rn.shape with rfl|⟨iu,yu,rfl⟩
  ·have hgS':¬S' g:=fun e=>hgS (st1.old g hlt e);have g1:=st1.fr.heap HG.out hgS;have rg1:=Zw g1 _ (Fr.refl _ _);obtain⟨w2,hw2⟩:∃w2,w2=Zcw w1 g (.string ⟨tx.toArray⟩) .nilIface (.slice pa pt.length pc) (.int .i64 nth) (.bool al) (.bool pr) (.string ⟨(fc::fr).toArray⟩):=⟨_,rfl⟩;have f2:Fr (fun k=>k=g) w1 w2:=by rw[hw2];exact Zcl _ _ _ _ _ _ _ _ _
   have g2:=ZbU g1 (.string ⟨tx.toArray⟩) .nilIface (.slice pa pt.length pc) (.int .i64 nth) (.bool al) (.bool pr) (.string ⟨(fc::fr).toArray⟩);rw[←hw2]at g2;have rg2:=Zw g2 _ (Fr.refl _ _);have h2:=h1.keep f2 (fun k hk e=>hgS' (by have hk:k=g:=hk;rw[←hk];exact e));have st2:Stp (GS S g) w (GS S' g) w2:=⟨(Stp.gs st1 hlt).fr.trans f2 (fun k hk e=>.inr e),(Stp.gs st1 hlt).old,fun q k hk=>Nat.lt_of_lt_of_le ((Stp.gs st1 hlt).lt q k hk) f2.size⟩;have rn2:=RN.keep f2 (fun k _ hk=>by have hk:k=g:=hk;rw[hk];exact .inr HGO.out) (fun _ _ hk=>hk) _ _ rn;have po2:=po.keep f2 (fun k hk=>by have hk:k=g:=hk;rw[hk];exact .inr HGO.out) (fun _ _ hk=>hk);dsimp only[Zcw]at hw2;have HW2:=hid hw2;have G2:=hid g2;have H2:=hid h2;have ST2:=hid st2;have RN2:=hid rn2;have PO2:=hid po2;clear g1 g2 h1 h2 st1 st2 rg rn rn2 po po2 hw2 f2;go_wp2_with(rw[←HW2.out]);go_ret;(try rw[←HW2.out]);exact⟨.nilIface,.slice pa pt.length pc,S',rfl,G2.out,RN2.out,PO2.out,H2.out,ST2.out,hgS'⟩
  ·have hgS':¬S' g:=fun e=>hgS (st1.old g hlt e);have g1:=st1.fr.heap HG.out hgS;have rg1:=Zw g1 _ (Fr.refl _ _);obtain⟨w2,hw2⟩:∃w2,w2=Zcw w1 g (.string ⟨tx.toArray⟩) (.iface iu yu) (.slice pa pt.length pc) (.int .i64 nth) (.bool al) (.bool pr) (.string ⟨(fc::fr).toArray⟩):=⟨_,rfl⟩;have f2:Fr (fun k=>k=g) w1 w2:=by rw[hw2];exact Zcl _ _ _ _ _ _ _ _ _
   have g2:=ZbU g1 (.string ⟨tx.toArray⟩) (.iface iu yu) (.slice pa pt.length pc) (.int .i64 nth) (.bool al) (.bool pr) (.string ⟨(fc::fr).toArray⟩);rw[←hw2]at g2;have rg2:=Zw g2 _ (Fr.refl _ _);have h2:=h1.keep f2 (fun k hk e=>hgS' (by have hk:k=g:=hk;rw[←hk];exact e));have st2:Stp (GS S g) w (GS S' g) w2:=⟨(Stp.gs st1 hlt).fr.trans f2 (fun k hk e=>.inr e),(Stp.gs st1 hlt).old,fun q k hk=>Nat.lt_of_lt_of_le ((Stp.gs st1 hlt).lt q k hk) f2.size⟩;have rn2:=RN.keep f2 (fun k _ hk=>by have hk:k=g:=hk;rw[hk];exact .inr HGO.out) (fun _ _ hk=>hk) _ _ rn;have po2:=po.keep f2 (fun k hk=>by have hk:k=g:=hk;rw[hk];exact .inr HGO.out) (fun _ _ hk=>hk);dsimp only[Zcw]at hw2;have HW2:=hid hw2;have G2:=hid g2;have H2:=hid h2;have ST2:=hid st2;have RN2:=hid rn2;have PO2:=hid po2;clear g1 g2 h1 h2 st1 st2 rg rn rn2 po po2 hw2 f2;go_wp2_with(rw[←HW2.out]);go_ret;(try rw[←HW2.out]);exact⟨.iface iu yu,.slice pa pt.length pc,S',rfl,G2.out,RN2.out,PO2.out,H2.out,ST2.out,hgS'⟩
theorem ZmS(n:UInt8)(s:AdS)(w:World)(hl:l.length≤99000)(ha:s.at_≤l.length)(hm:s.marks.length≤100000)(hS:∀k,S k→k<w.heap.size)(hO:∀k,O k→k<w.heap.size)(hgO:O g)(hgS:¬S g)(W0:World)(hE:Env W0)(hW:Fr nob W0 w)(hSW:∀k,S k→W0.heap.size≤k)(hg:w.heap[g]? =some (.cells (cmd20 p g0 g1 g2 g3 g4 g5 g6 g7 g8 n [] SV.zero .nilIface (.slice none 0 0) []) 35 (0,0)))(h:CRd b l x s S w)(n123:n≠123)(n125:n≠125)(n58:n≠58)(n98:n≠98)(n116:n≠116)(n84:n≠84)(n97:n≠97)(n105:n≠105)(n99:n≠99)(n114:n≠114)(n119:n≠119)(n115:n≠115)(n121:n≠121):
 Calls Tryz.prog 58 #[.pointer (some ⟨b,0,none⟩),.pointer (some ⟨g,0,none⟩)] w (Zbb b g l x S O w p g0 g1 g2 g3 g4 g5 g6 g7 g8 n (argsC x l (cv0 p gv n) s)):=by
 rw[show argsC x l (cv0 p gv n) s=(true,cv0 p gv n,s) by
  unfold argsC;simp only[n123,n125,n58,n98,n116,n84,n97,n105,n99,n114,n119,n115,n121,or_self,if_false]]
 have rg:=Zw hg _ (Fr.refl _ _);have H:=hid h;have HG:=hid hg;have q123:((n.toNat:Int)==123)=false:=ZbD n123;have q125:((n.toNat:Int)==125)=false:=ZbD n125;have q58:((n.toNat:Int)==58)=false:=ZbD n58;have q98:((n.toNat:Int)==98)=false:=ZbD n98;have q116:((n.toNat:Int)==116)=false:=ZbD n116;have q84:((n.toNat:Int)==84)=false:=ZbD n84;have q97:((n.toNat:Int)==97)=false:=ZbD n97;have q105:((n.toNat:Int)==105)=false:=ZbD n105;have q99:((n.toNat:Int)==99)=false:=ZbD n99;have q114:((n.toNat:Int)==114)=false:=ZbD n114;have q119:((n.toNat:Int)==119)=false:=ZbD n119;have q115:((n.toNat:Int)==115)=false:=ZbD n115;have q121:((n.toNat:Int)==121)=false:=ZbD n121;clear n123 n125 n58 n98 n116 n84 n97 n105 n99 n114 n119 n115 n121 hg h;go_enter Tryz.func58,Tryz.ntmps58;go_wp2;go_ret;exact⟨.nilIface,.slice none 0 0,S,rfl,HG.out,rfl,PrO.nil _ _,H.out,Stp.refl _ _,hgS⟩
theorem Zlj(n:UInt8)(s:AdS)(w:World)(hl:l.length≤99000)(ha:s.at_≤l.length)(hm:s.marks.length≤100000)(hS:∀k,S k→k<w.heap.size)(hO:∀k,O k→k<w.heap.size)(hgO:O g)(hgS:¬S g)(W0:World)(hE:Env W0)(hW:Fr nob W0 w)(hSW:∀k,S k→W0.heap.size≤k)(hg:w.heap[g]? =some (.cells (cmd20 p g0 g1 g2 g3 g4 g5 g6 g7 g8 n [] SV.zero .nilIface (.slice none 0 0) []) 35 (0,0)))(h:CRd b l x s S w):
 Calls Tryz.prog 58 #[.pointer (some ⟨b,0,none⟩),.pointer (some ⟨g,0,none⟩)] w (Zbb b g l x S O w p g0 g1 g2 g3 g4 g5 g6 g7 g8 n (argsC x l (cv0 p gv n) s)):=by
 by_cases n123:n=123
 ·subst n123;exact ZpR b g l x S O p gv g0 g1 g2 g3 g4 g5 g6 g7 g8 s w hl ha hm hS hO hgO hgS W0 hE hW hSW hg h
 by_cases n125:n=125
 ·subst n125;exact ZpS b g l x S O p gv g0 g1 g2 g3 g4 g5 g6 g7 g8 s w hl ha hm hS hO hgO hgS W0 hE hW hSW hg h
 by_cases n58:n=58
 ·subst n58;exact ZqF b g l x S O p gv g0 g1 g2 g3 g4 g5 g6 g7 g8 s w hl ha hm hS hO hgO hgS W0 hE hW hSW hg h
 by_cases n98:n=98
 ·subst n98;exact ZqG b g l x S O p gv g0 g1 g2 g3 g4 g5 g6 g7 g8 s w hl ha hm hS hO hgO hgS W0 hE hW hSW hg h
 by_cases n116:n=116
 ·subst n116;exact ZpT b g l x S O p gv g0 g1 g2 g3 g4 g5 g6 g7 g8 s w hl ha hm hS hO hgO hgS W0 hE hW hSW hg h
 by_cases n84:n=84
 ·subst n84;exact ZqH b g l x S O p gv g0 g1 g2 g3 g4 g5 g6 g7 g8 s w hl ha hm hS hO hgO hgS W0 hE hW hSW hg h
 by_cases n97:n=97
 ·subst n97;exact ZqI b g l x S O p gv g0 g1 g2 g3 g4 g5 g6 g7 g8 s w hl ha hm hS hO hgO hgS W0 hE hW hSW hg h
 by_cases n105:n=105
 ·subst n105;exact ZpU b g l x S O p gv g0 g1 g2 g3 g4 g5 g6 g7 g8 s w hl ha hm hS hO hgO hgS W0 hE hW hSW hg h
 by_cases n99:n=99
 ·subst n99;exact ZqJ b g l x S O p gv g0 g1 g2 g3 g4 g5 g6 g7 g8 s w hl ha hm hS hO hgO hgS W0 hE hW hSW hg h
 by_cases n114:n=114
 ·subst n114;exact ZpV b g l x S O p gv g0 g1 g2 g3 g4 g5 g6 g7 g8 s w hl ha hm hS hO hgO hgS W0 hE hW hSW hg h
 by_cases n119:n=119
 ·subst n119;exact ZpW b g l x S O p gv g0 g1 g2 g3 g4 g5 g6 g7 g8 s w hl ha hm hS hO hgO hgS W0 hE hW hSW hg h
 by_cases n115:n=115
 ·subst n115;exact ZpY b g l x S O p gv g0 g1 g2 g3 g4 g5 g6 g7 g8 s w hl ha hm hS hO hgO hgS W0 hE hW hSW hg h
 by_cases n121:n=121
 ·subst n121;exact ZpX b g l x S O p gv g0 g1 g2 g3 g4 g5 g6 g7 g8 s w hl ha hm hS hO hgO hgS W0 hE hW hSW hg h
 exact ZmS b g l x S O p gv g0 g1 g2 g3 g4 g5 g6 g7 g8 n s w hl ha hm hS hO hgO hgS W0 hE hW hSW hg h n123 n125 n58 n98 n116 n84 n97 n105 n99 n114 n119 n115 n121
end
theorem Zq{w:World}{k:Nat}{o:Obj}(h:w.heap[k]? =some o):w.drew.heap[k]? =some o:=h
abbrev B5(w:World)(b:Nat)(v0 v1 v2 v3 v4:Value):Prop:=w.cell? ⟨b,0,none⟩=some v0∧w.cell? ⟨b,1,none⟩=some v1∧w.cell? ⟨b,2,none⟩=some v2∧w.cell? ⟨b,3,none⟩=some v3∧w.cell? ⟨b,4,none⟩=some v4
section
variable {w:World} {b k j:Nat} {v0 v1 v2 v3 v4:Value}
theorem B5.of{T:TypeId}{fr:Nat×Nat}(h:w.heap[b]? =some (.cells #[v0,v1,v2,v3,v4] T fr)):B5 w b v0 v1 v2 v3 v4:=⟨cell_at h rfl,cell_at h rfl,cell_at h rfl,cell_at h rfl,cell_at h rfl⟩
theorem B5.drew(h:B5 w b v0 v1 v2 v3 v4):B5 w.drew b v0 v1 v2 v3 v4:=h
theorem B5.set(h:B5 w b v0 v1 v2 v3 v4)(hb:k≠b)(u:Value):B5 (w.setCell ⟨k,j,none⟩ u) b v0 v1 v2 v3 v4:=⟨Zm h.1 hb,Zm h.2.1 hb,Zm h.2.2.1 hb,Zm h.2.2.2.1 hb,Zm h.2.2.2.2 hb⟩
end
theorem Zlk(l:List UInt8)(p:Nat)(x:Bool)(w:World)(hl:l.length≤99000)(hp:p≤l.length)(hE:Env w)(z:Int)(q:Nat)(hR:ZX x l ⟨p,[],0⟩=.inl (z,q)):
 Calls Tryz.prog 29 #[.string ⟨l.toArray⟩,.int .i64 (p:Nat),.bool x] w fun e w'=>e=.returned (.tuple #[.agg zG,.slice none 0 0,.int .i64 (q:Nat),.int .i64 z])∧Fr nob w w':=by
 have hz0:¬z=0:=guardD_err hR;have hz1:(z==0)=false:=by simpa using hz0
 have hz2:(z !=0)=true:=by simpa using hz0
 obtain⟨w1,hw1⟩:∃w1,w1=w.alloc (.cells zG 30):=⟨_,rfl⟩;have f1:Fr nob w w1:=by rw[hw1];exact(Fr.refl _ _).alloc _
 have hz:w1.heap[w.heap.size]? =some (.cells zG 30 (0,0)):=by rw[hw1];exact newAt _ _
 have hs1:w1.heap.size=w.heap.size+1:=by rw[hw1];simp
 obtain⟨w2,hw2⟩:∃w2,w2=w1.alloc (.cells #[.string ⟨l.toArray⟩,.int .i64 (p:Nat),.bool x,.slice none 0 0,.int .i64 0] 116):=⟨_,rfl⟩;have f2:Fr nob w1 w2:=by rw[hw2];exact(Fr.refl _ _).alloc _
 have hb:w2.heap[w.heap.size+1]? =some (.cells #[.string ⟨l.toArray⟩,.int .i64 (p:Nat),.bool x,.slice none 0 0,.int .i64 0] 116 (0,0)):=by
  rw[hw2,←hs1];exact newAt _ _
 have hs2:w2.heap.size=w.heap.size+2:=by rw[hw2];simp[hs1]
 have hA:ARd (w.heap.size+1) l x ⟨p,[],0⟩ (fun k=>k=w.heap.size+1) w2:=⟨.slice none 0 0,⟨hb,World.ownsRow_nil _ _ _ _,fun _ h=>(by cases h),rfl⟩⟩;have hG:=Ziv (w.heap.size+1) l x p (fun k=>k=w.heap.size+1) (fun k=>k=w.heap.size) w2 hl hp (fun k hk=>by omega) (fun k hk=>by omega) w hE (f1.trans' f2) (fun k hk=>by omega) hA;rw[hR]at hG;have hz':=f2.heap hz (fun x=>x);have q1:¬(l.length:Int)<(p:Int):=by omega
 have HG:=hid hG;have HW1:=hid hw1;have HW2:=hid hw2;have F12:=hid (f1.trans' f2);have HZ:=hid hz';have HS2:=hid hs2;have HS1:=hid hs1;clear hG hw1 hw2 f1 f2 hz hz' hb hA hs1 hs2 hE hR;go_enter Tryz.func29,Tryz.ntmps29;go_wp2_with(first|rw[←HW1.out]|rw[HS1.out]|rw[←HW2.out]);refine HG.out.mono ?_;intro e w3 he;obtain⟨gv,v,S',ms,rfl,⟨u1,u2,rfl,rn1,rn2⟩,hA3,st3⟩:=he;obtain⟨mv3,h3⟩:=hA3;have hz3:=st3.fr.heap HZ.out (fun h=>by omega);have hrb:w.heap.size≠w.heap.size+1:=by omega
 have FF:=hid (F12.out.trans st3.fr (fun i hi h=>by omega));obtain⟨w4,hw4⟩:∃w4,w4=w3.alloc (.cells #[.int .i64 gv.a.kind,.int .i64 gv.a.line,.string ⟨gv.a.text.toArray⟩,u1,.int .i64 gv.b.kind,.int .i64 gv.b.line,.string ⟨gv.b.text.toArray⟩,u2,.bool gv.no] 30):=⟨_,rfl⟩;have f4:Fr nob w3 w4:=by rw[hw4];exact(Fr.refl _ _).alloc _
 have hb4:=f4.heap h3.blk (fun x=>x);have hz4:=f4.heap hz3 (fun x=>x);have r4:=Zd hb4 _ (Fr.refl _ _);have HQ:=hid (B5.of hb4);have HQd:=hid (B5.drew (B5.of hb4));have rz:=Zk hz4;have HW4:=hid hw4;have HZ4:=hid hz4;have FF4:=hid (FF.out.trans' f4);have sh1:=rn1.shape;have sh2:=rn2.shape;clear rn1 rn2 hw4 f4 hb4 hz4 h3 hz3 st3;rcases sh1 with rfl|⟨i1,y1,rfl⟩
 all_goals rcases sh2 with rfl|⟨i2,y2,rfl⟩
 all_goals
  go_wp2_with(rw[←HW4.out])
  go_region_held3 (fun w'=>B5 w' (w.heap.size+1) (.string ⟨l.toArray⟩) (.int .i64 (q:Nat)) (.bool x) mv3 (.int .i64 z)) (repeat(first|(with_reducible exact HQ.out)|(with_reducible exact HQd.out)|(with_reducible refine B5.set ?_ (by omega) _)|(with_reducible refine B5.drew ?_))) (fail)
 all_goals
  obtain⟨w5,hw5⟩:∃w5,w5=(((((((((w4.setCell ⟨w.heap.size,0,none⟩ (.int .i64 0)).setCell ⟨w.heap.size,1,none⟩ (.int .i64 0)).setCell ⟨w.heap.size,2,none⟩ (.string ⟨#[]⟩)).setCell ⟨w.heap.size,3,none⟩ .nilIface).setCell ⟨w.heap.size,4,none⟩ (.int .i64 0)).setCell ⟨w.heap.size,5,none⟩ (.int .i64 0)).setCell ⟨w.heap.size,6,none⟩ (.string ⟨#[]⟩)).setCell ⟨w.heap.size,7,none⟩ .nilIface).setCell ⟨w.heap.size,8,none⟩ (.bool false)).drew:=⟨_,rfl⟩;rw[←hw5];have hz5:w5.heap[w.heap.size]? =some (.cells zG 30 (0,0)):=by rw[hw5];exact Zq (Zf HZ4.out (.int .i64 0) (.int .i64 0) (.string ⟨#[]⟩) .nilIface (.int .i64 0) (.int .i64 0) (.string ⟨#[]⟩) .nilIface (.bool false))
  have ff5:Fr nob w w5:=by rw[hw5];exact(Zjh FF4.out (Nat.le_refl _) (.int .i64 0) (.int .i64 0) (.string ⟨#[]⟩) .nilIface (.int .i64 0) (.int .i64 0) (.string ⟨#[]⟩) .nilIface (.bool false)).drew
  have HZ5:=hid hz5;have FF5:=hid ff5;clear hw5 hz5 ff5 rz r4;go_wp2;(try simp only[Exit.inBlock,Exit.then]);exact bodyPost_ret (ZbB rfl rfl HZ5.out) rfl ⟨rfl,FF5.out⟩
theorem BC.drew{w:World}{b c:Nat}{v0 v1 v2 v3 v4 u0 u1 u2 u3 u4 u5 u6 u7 u8:Value}(h:B5 w b v0 v1 v2 v3 v4∧C9 w c u0 u1 u2 u3 u4 u5 u6 u7 u8):B5 w.drew b v0 v1 v2 v3 v4∧C9 w.drew c u0 u1 u2 u3 u4 u5 u6 u7 u8:=h
theorem BC.set{w:World}{b c k j:Nat}{v0 v1 v2 v3 v4 u0 u1 u2 u3 u4 u5 u6 u7 u8:Value}(h:B5 w b v0 v1 v2 v3 v4∧C9 w c u0 u1 u2 u3 u4 u5 u6 u7 u8)(hb:k≠b)(hc:k≠c)(u:Value):B5 (w.setCell ⟨k,j,none⟩ u) b v0 v1 v2 v3 v4∧C9 (w.setCell ⟨k,j,none⟩ u) c u0 u1 u2 u3 u4 u5 u6 u7 u8:=by
 obtain⟨h1,c0,c1,c2,c3,c4,c5,c6,c7,c8⟩:=h;exact⟨h1.set hb u,Zm c0 hc,Zm c1 hc,Zm c2 hc,Zm c3 hc,Zm c4 hc,Zm c5 hc,Zm c6 hc,Zm c7 hc,Zm c8 hc⟩
theorem ZgQ(l:List UInt8)(p:Nat)(x:Bool)(w:World)(hl:l.length≤99000)(hp:p≤l.length)(hE:Env w)(gv:GV)(q:Nat)(ms:List (Nat×List UInt8))(hR:ZX x l ⟨p,[],0⟩=.inr (gv,⟨q,ms,0⟩))(O0:Nat→Prop)(hO0:∀k,O0 k→k<w.heap.size):
 Calls Tryz.prog 29 #[.string ⟨l.toArray⟩,.int .i64 (p:Nat),.bool x] w fun e w'=>∃v mv,e=.returned (.tuple #[v,mv,.int .i64 (q:Nat),.int .i64 0])∧Zni nob w' gv v∧OwM w' ms mv∧Fr nob w w'∧∃T:Nat→Prop,(∀k,mv.ownBlock=some k→T k)∧(∀k,T k→w.heap.size≤k∧k<w'.heap.size)∧Zni (SO T O0) w' gv v:=by
 obtain⟨w1,hw1⟩:∃w1,w1=w.alloc (.cells zG 30):=⟨_,rfl⟩;have f1:Fr nob w w1:=by rw[hw1];exact(Fr.refl _ _).alloc _
 have hz:w1.heap[w.heap.size]? =some (.cells zG 30 (0,0)):=by rw[hw1];exact newAt _ _
 have hs1:w1.heap.size=w.heap.size+1:=by rw[hw1];simp
 obtain⟨w2,hw2⟩:∃w2,w2=w1.alloc (.cells #[.string ⟨l.toArray⟩,.int .i64 (p:Nat),.bool x,.slice none 0 0,.int .i64 0] 116):=⟨_,rfl⟩;have f2:Fr nob w1 w2:=by rw[hw2];exact(Fr.refl _ _).alloc _
 have hb:w2.heap[w.heap.size+1]? =some (.cells #[.string ⟨l.toArray⟩,.int .i64 (p:Nat),.bool x,.slice none 0 0,.int .i64 0] 116 (0,0)):=by
  rw[hw2,←hs1];exact newAt _ _
 have hs2:w2.heap.size=w.heap.size+2:=by rw[hw2];simp[hs1]
 have hA:ARd (w.heap.size+1) l x ⟨p,[],0⟩ (fun k=>k=w.heap.size+1) w2:=⟨.slice none 0 0,⟨hb,World.ownsRow_nil _ _ _ _,fun _ h=>(by cases h),rfl⟩⟩;have hG:=Ziv (w.heap.size+1) l x p (fun k=>k=w.heap.size+1) (fun k=>k=w.heap.size∨O0 k) w2 hl hp (fun k hk=>by omega) (fun k hk=>by rcases hk with hk|hk;(·omega);(·have:=hO0 k hk;omega)) w hE (f1.trans' f2) (fun k hk=>by omega) hA;rw[hR]at hG;have hz':=f2.heap hz (fun x=>x);have q1:¬(l.length:Int)<(p:Int):=by omega
 have HG:=hid hG;have HW1:=hid hw1;have HW2:=hid hw2;have F12:=hid (f1.trans' f2);have HZ:=hid hz';have HS2:=hid hs2;have HS1:=hid hs1;clear hG hw1 hw2 f1 f2 hz hz' hb hA hs1 hs2 hE hR;go_enter Tryz.func29,Tryz.ntmps29;go_wp2_with(first|rw[←HW1.out]|rw[HS1.out]|rw[←HW2.out]);refine HG.out.mono ?_;intro e w3 he;obtain⟨v,S',rfl,⟨u1,u2,rfl,rn1,rn2⟩,hA3,st3⟩:=he;obtain⟨mv3,h3⟩:=hA3;have hz3:=st3.fr.heap HZ.out (fun h=>by omega);have hrb:w.heap.size≠w.heap.size+1:=by omega
 have hr3:w.heap.size≠w3.heap.size:=by have:=st3.fr.size;have:=HS2.out;omega
 have FF:=hid (F12.out.trans st3.fr (fun i hi h=>by omega));have hnr:∀k,mv3.ownBlock=some k→¬k=w.heap.size:=fun k hk e=>by
  have h1:=(h3.nm k hk).2;have h2:=st3.old k (by have:=HS2.out;omega) h1;have h2:k=w.heap.size+1:=h2;omega
 have hT1:∀k,mv3.ownBlock=some k→S' k:=fun k hk=>(h3.nm k hk).2;have hT2:∀k,S' k→w.heap.size≤k∧k<w3.heap.size:=fun k hk=>⟨by
  by_cases ho:k<w2.heap.size
  ·have h2:k=w.heap.size+1:=st3.old k ho hk;omega
  ·have:=HS2.out;omega,st3.lt (fun i (hi:i=w.heap.size+1)=>by have:=HS2.out;omega) k hk⟩
 have HT1:=hid hT1;have HT2:=hid hT2;clear hT1 hT2;obtain⟨w4,hw4⟩:∃w4,w4=w3.alloc (.cells #[.int .i64 gv.a.kind,.int .i64 gv.a.line,.string ⟨gv.a.text.toArray⟩,u1,.int .i64 gv.b.kind,.int .i64 gv.b.line,.string ⟨gv.b.text.toArray⟩,u2,.bool gv.no] 30):=⟨_,rfl⟩;have f4:Fr nob w3 w4:=by rw[hw4];exact(Fr.refl _ _).alloc _
 have hg4:w4.heap[w3.heap.size]? =some (.cells #[.int .i64 gv.a.kind,.int .i64 gv.a.line,.string ⟨gv.a.text.toArray⟩,u1,.int .i64 gv.b.kind,.int .i64 gv.b.line,.string ⟨gv.b.text.toArray⟩,u2,.bool gv.no] 30 (0,0)):=by rw[hw4];exact newAt _ _
 have hb4:=f4.heap h3.blk (fun x=>x);have hma:=h3.ma;obtain⟨am,cm,hmv⟩:=Zb hma;subst hmv;have hz4:=f4.heap hz3 (fun x=>x);have r4:=Zd hb4 _ (Fr.refl _ _);have HQ:=hid (And.intro (B5.of hb4) (C9.of hg4));have HQd:=hid (BC.drew (And.intro (B5.of hb4) (C9.of hg4)));have rz:=Zk hz4;have HT4:=hid (show∀k,S' k→w.heap.size≤k∧k<w4.heap.size from fun k hk=>⟨(HT2.out k hk).1,by have:=f4.size;have:=(HT2.out k hk).2;omega⟩);have HW4:=hid hw4;have HZ4:=hid hz4;have FF4:=hid (FF.out.trans' f4);have RN1:=hid (rn1.on f4);have RN2:=hid (rn2.on f4);have MA:=hid (ownsRow_fr hma f4 (fun _ _ x=>x));have NR:=hid hnr;have sh1:=rn1.shape;have sh2:=rn2.shape;clear rn1 rn2 hw4 f4 hb4 hz4 h3 hz3 st3 hg4 hma hnr;rcases sh1 with rfl|⟨i1,y1,rfl⟩
 all_goals rcases sh2 with rfl|⟨i2,y2,rfl⟩
 ·go_wp2_with(rw[←HW4.out])
  go_region_held3 (fun w'=>B5 w' (w.heap.size+1) (.string ⟨l.toArray⟩) (.int .i64 (q:Nat)) (.bool x) (.slice am ms.length cm) (.int .i64 0)∧C9 w' w3.heap.size (.int .i64 gv.a.kind) (.int .i64 gv.a.line) (.string ⟨gv.a.text.toArray⟩) .nilIface (.int .i64 gv.b.kind) (.int .i64 gv.b.line) (.string ⟨gv.b.text.toArray⟩) .nilIface (.bool gv.no)) (repeat(first|(with_reducible exact HQ.out)|(with_reducible exact HQd.out)|(with_reducible refine BC.set ?_ (by omega) (by omega) _)|(with_reducible refine BC.drew ?_))) (fail)
  all_goals
   obtain⟨w5,hw5⟩:∃w5,w5=(((((((((w4.setCell ⟨w.heap.size,0,none⟩ (.int .i64 gv.a.kind)).setCell ⟨w.heap.size,1,none⟩ (.int .i64 gv.a.line)).setCell ⟨w.heap.size,2,none⟩ (.string ⟨gv.a.text.toArray⟩)).setCell ⟨w.heap.size,3,none⟩ .nilIface).setCell ⟨w.heap.size,4,none⟩ (.int .i64 gv.b.kind)).setCell ⟨w.heap.size,5,none⟩ (.int .i64 gv.b.line)).setCell ⟨w.heap.size,6,none⟩ (.string ⟨gv.b.text.toArray⟩)).setCell ⟨w.heap.size,7,none⟩ .nilIface).setCell ⟨w.heap.size,8,none⟩ (.bool gv.no)).drew:=⟨_,rfl⟩;rw[←hw5];have hz5:w5.heap[w.heap.size]? =some (.cells #[.int .i64 gv.a.kind,.int .i64 gv.a.line,.string ⟨gv.a.text.toArray⟩,.nilIface,.int .i64 gv.b.kind,.int .i64 gv.b.line,.string ⟨gv.b.text.toArray⟩,.nilIface,.bool gv.no] 30 (0,0)):=by rw[hw5];exact Zq (Zf HZ4.out (.int .i64 gv.a.kind) (.int .i64 gv.a.line) (.string ⟨gv.a.text.toArray⟩) .nilIface (.int .i64 gv.b.kind) (.int .i64 gv.b.line) (.string ⟨gv.b.text.toArray⟩) .nilIface (.bool gv.no))
   have f45:Fr (fun k=>k=w.heap.size) w4 w5:=by rw[hw5];exact(Zas (.int .i64 gv.a.kind) (.int .i64 gv.a.line) (.string ⟨gv.a.text.toArray⟩) .nilIface (.int .i64 gv.b.kind) (.int .i64 gv.b.line) (.string ⟨gv.b.text.toArray⟩) .nilIface (.bool gv.no)).drew
   have HFF:=hid (show Fr nob w w5 from FF4.out.trans f45 (fun i hi h=>by have h:i=w.heap.size:=h;omega));have HP1:=hid (RN.keep f45 (fun k _ h=>.inr (.inl h)) (fun _ _ x=>x.elim .inl (fun e=>.inr (.inr e))) _ _ RN1.out:RN (SO S' O0) w5 gv.a.tree .nilIface);have HR1:=hid (RN.keep f45 (fun k _ h=>.inr (.inl h)) (fun _ _ x=>x.elim) _ _ RN1.out:RN nob w5 gv.a.tree .nilIface);have HP2:=hid (RN.keep f45 (fun k _ h=>.inr (.inl h)) (fun _ _ x=>x.elim .inl (fun e=>.inr (.inr e))) _ _ RN2.out:RN (SO S' O0) w5 gv.b.tree .nilIface);have HT5:=hid (show∀k,S' k→w.heap.size≤k∧k<w5.heap.size from fun k hk=>⟨(HT4.out k hk).1,by have:=f45.size;have:=(HT4.out k hk).2;omega⟩);have HR2:=hid (RN.keep f45 (fun k _ h=>.inr (.inl h)) (fun _ _ x=>x.elim) _ _ RN2.out:RN nob w5 gv.b.tree .nilIface);have HMA:=hid (show OwM w5 ms (.slice am ms.length cm)from ownsRow_fr MA.out f45 (fun k hk h=>NR.out k hk h));have HZ5:=hid hz5
   clear hw5 hz5 f45 rz r4;go_wp2;(try simp only[Exit.inBlock,Exit.then]);exact bodyPost_ret (ZbB rfl rfl HZ5.out) rfl ⟨_,_,rfl,⟨_,_,rfl,HR1.out,HR2.out⟩,HMA.out,HFF.out,S',HT1.out,HT5.out,⟨_,_,rfl,HP1.out,HP2.out⟩⟩
 ·go_wp2_with(rw[←HW4.out])
  go_region_held3 (fun w'=>B5 w' (w.heap.size+1) (.string ⟨l.toArray⟩) (.int .i64 (q:Nat)) (.bool x) (.slice am ms.length cm) (.int .i64 0)∧C9 w' w3.heap.size (.int .i64 gv.a.kind) (.int .i64 gv.a.line) (.string ⟨gv.a.text.toArray⟩) .nilIface (.int .i64 gv.b.kind) (.int .i64 gv.b.line) (.string ⟨gv.b.text.toArray⟩) (.iface i2 y2) (.bool gv.no)) (repeat(first|(with_reducible exact HQ.out)|(with_reducible exact HQd.out)|(with_reducible refine BC.set ?_ (by omega) (by omega) _)|(with_reducible refine BC.drew ?_))) (fail)
  all_goals
   obtain⟨w5,hw5⟩:∃w5,w5=(((((((((w4.setCell ⟨w.heap.size,0,none⟩ (.int .i64 gv.a.kind)).setCell ⟨w.heap.size,1,none⟩ (.int .i64 gv.a.line)).setCell ⟨w.heap.size,2,none⟩ (.string ⟨gv.a.text.toArray⟩)).setCell ⟨w.heap.size,3,none⟩ .nilIface).setCell ⟨w.heap.size,4,none⟩ (.int .i64 gv.b.kind)).setCell ⟨w.heap.size,5,none⟩ (.int .i64 gv.b.line)).setCell ⟨w.heap.size,6,none⟩ (.string ⟨gv.b.text.toArray⟩)).setCell ⟨w.heap.size,7,none⟩ (.iface i2 y2)).setCell ⟨w.heap.size,8,none⟩ (.bool gv.no)).drew:=⟨_,rfl⟩;rw[←hw5];have hz5:w5.heap[w.heap.size]? =some (.cells #[.int .i64 gv.a.kind,.int .i64 gv.a.line,.string ⟨gv.a.text.toArray⟩,.nilIface,.int .i64 gv.b.kind,.int .i64 gv.b.line,.string ⟨gv.b.text.toArray⟩,.iface i2 y2,.bool gv.no] 30 (0,0)):=by rw[hw5];exact Zq (Zf HZ4.out (.int .i64 gv.a.kind) (.int .i64 gv.a.line) (.string ⟨gv.a.text.toArray⟩) .nilIface (.int .i64 gv.b.kind) (.int .i64 gv.b.line) (.string ⟨gv.b.text.toArray⟩) (.iface i2 y2) (.bool gv.no))
   have f45:Fr (fun k=>k=w.heap.size) w4 w5:=by rw[hw5];exact(Zas (.int .i64 gv.a.kind) (.int .i64 gv.a.line) (.string ⟨gv.a.text.toArray⟩) .nilIface (.int .i64 gv.b.kind) (.int .i64 gv.b.line) (.string ⟨gv.b.text.toArray⟩) (.iface i2 y2) (.bool gv.no)).drew
   have HFF:=hid (show Fr nob w w5 from FF4.out.trans f45 (fun i hi h=>by have h:i=w.heap.size:=h;omega));have HP1:=hid (RN.keep f45 (fun k _ h=>.inr (.inl h)) (fun _ _ x=>x.elim .inl (fun e=>.inr (.inr e))) _ _ RN1.out:RN (SO S' O0) w5 gv.a.tree .nilIface);have HR1:=hid (RN.keep f45 (fun k _ h=>.inr (.inl h)) (fun _ _ x=>x.elim) _ _ RN1.out:RN nob w5 gv.a.tree .nilIface);have HP2:=hid (RN.keep f45 (fun k _ h=>.inr (.inl h)) (fun _ _ x=>x.elim .inl (fun e=>.inr (.inr e))) _ _ RN2.out:RN (SO S' O0) w5 gv.b.tree (.iface i2 y2));have HT5:=hid (show∀k,S' k→w.heap.size≤k∧k<w5.heap.size from fun k hk=>⟨(HT4.out k hk).1,by have:=f45.size;have:=(HT4.out k hk).2;omega⟩);have HR2:=hid (RN.keep f45 (fun k _ h=>.inr (.inl h)) (fun _ _ x=>x.elim) _ _ RN2.out:RN nob w5 gv.b.tree (.iface i2 y2));have HMA:=hid (show OwM w5 ms (.slice am ms.length cm)from ownsRow_fr MA.out f45 (fun k hk h=>NR.out k hk h))
   have HZ5:=hid hz5;clear hw5 hz5 f45 rz r4;go_wp2;(try simp only[Exit.inBlock,Exit.then]);exact bodyPost_ret (ZbB rfl rfl HZ5.out) rfl ⟨_,_,rfl,⟨_,_,rfl,HR1.out,HR2.out⟩,HMA.out,HFF.out,S',HT1.out,HT5.out,⟨_,_,rfl,HP1.out,HP2.out⟩⟩
 ·go_wp2_with(rw[←HW4.out])
  go_region_held3 (fun w'=>B5 w' (w.heap.size+1) (.string ⟨l.toArray⟩) (.int .i64 (q:Nat)) (.bool x) (.slice am ms.length cm) (.int .i64 0)∧C9 w' w3.heap.size (.int .i64 gv.a.kind) (.int .i64 gv.a.line) (.string ⟨gv.a.text.toArray⟩) (.iface i1 y1) (.int .i64 gv.b.kind) (.int .i64 gv.b.line) (.string ⟨gv.b.text.toArray⟩) .nilIface (.bool gv.no)) (repeat(first|(with_reducible exact HQ.out)|(with_reducible exact HQd.out)|(with_reducible refine BC.set ?_ (by omega) (by omega) _)|(with_reducible refine BC.drew ?_))) (fail)
  all_goals
   obtain⟨w5,hw5⟩:∃w5,w5=(((((((((w4.setCell ⟨w.heap.size,0,none⟩ (.int .i64 gv.a.kind)).setCell ⟨w.heap.size,1,none⟩ (.int .i64 gv.a.line)).setCell ⟨w.heap.size,2,none⟩ (.string ⟨gv.a.text.toArray⟩)).setCell ⟨w.heap.size,3,none⟩ (.iface i1 y1)).setCell ⟨w.heap.size,4,none⟩ (.int .i64 gv.b.kind)).setCell ⟨w.heap.size,5,none⟩ (.int .i64 gv.b.line)).setCell ⟨w.heap.size,6,none⟩ (.string ⟨gv.b.text.toArray⟩)).setCell ⟨w.heap.size,7,none⟩ .nilIface).setCell ⟨w.heap.size,8,none⟩ (.bool gv.no)).drew:=⟨_,rfl⟩;rw[←hw5];have hz5:w5.heap[w.heap.size]? =some (.cells #[.int .i64 gv.a.kind,.int .i64 gv.a.line,.string ⟨gv.a.text.toArray⟩,.iface i1 y1,.int .i64 gv.b.kind,.int .i64 gv.b.line,.string ⟨gv.b.text.toArray⟩,.nilIface,.bool gv.no] 30 (0,0)):=by rw[hw5];exact Zq (Zf HZ4.out (.int .i64 gv.a.kind) (.int .i64 gv.a.line) (.string ⟨gv.a.text.toArray⟩) (.iface i1 y1) (.int .i64 gv.b.kind) (.int .i64 gv.b.line) (.string ⟨gv.b.text.toArray⟩) .nilIface (.bool gv.no))
   have f45:Fr (fun k=>k=w.heap.size) w4 w5:=by rw[hw5];exact(Zas (.int .i64 gv.a.kind) (.int .i64 gv.a.line) (.string ⟨gv.a.text.toArray⟩) (.iface i1 y1) (.int .i64 gv.b.kind) (.int .i64 gv.b.line) (.string ⟨gv.b.text.toArray⟩) .nilIface (.bool gv.no)).drew
   have HFF:=hid (show Fr nob w w5 from FF4.out.trans f45 (fun i hi h=>by have h:i=w.heap.size:=h;omega));have HP1:=hid (RN.keep f45 (fun k _ h=>.inr (.inl h)) (fun _ _ x=>x.elim .inl (fun e=>.inr (.inr e))) _ _ RN1.out:RN (SO S' O0) w5 gv.a.tree (.iface i1 y1));have HR1:=hid (RN.keep f45 (fun k _ h=>.inr (.inl h)) (fun _ _ x=>x.elim) _ _ RN1.out:RN nob w5 gv.a.tree (.iface i1 y1));have HP2:=hid (RN.keep f45 (fun k _ h=>.inr (.inl h)) (fun _ _ x=>x.elim .inl (fun e=>.inr (.inr e))) _ _ RN2.out:RN (SO S' O0) w5 gv.b.tree .nilIface);have HT5:=hid (show∀k,S' k→w.heap.size≤k∧k<w5.heap.size from fun k hk=>⟨(HT4.out k hk).1,by have:=f45.size;have:=(HT4.out k hk).2;omega⟩);have HR2:=hid (RN.keep f45 (fun k _ h=>.inr (.inl h)) (fun _ _ x=>x.elim) _ _ RN2.out:RN nob w5 gv.b.tree .nilIface);have HMA:=hid (show OwM w5 ms (.slice am ms.length cm)from ownsRow_fr MA.out f45 (fun k hk h=>NR.out k hk h))
   have HZ5:=hid hz5;clear hw5 hz5 f45 rz r4;go_wp2;(try simp only[Exit.inBlock,Exit.then]);exact bodyPost_ret (ZbB rfl rfl HZ5.out) rfl ⟨_,_,rfl,⟨_,_,rfl,HR1.out,HR2.out⟩,HMA.out,HFF.out,S',HT1.out,HT5.out,⟨_,_,rfl,HP1.out,HP2.out⟩⟩
 ·go_wp2_with(rw[←HW4.out])
  go_region_held3 (fun w'=>B5 w' (w.heap.size+1) (.string ⟨l.toArray⟩) (.int .i64 (q:Nat)) (.bool x) (.slice am ms.length cm) (.int .i64 0)∧C9 w' w3.heap.size (.int .i64 gv.a.kind) (.int .i64 gv.a.line) (.string ⟨gv.a.text.toArray⟩) (.iface i1 y1) (.int .i64 gv.b.kind) (.int .i64 gv.b.line) (.string ⟨gv.b.text.toArray⟩) (.iface i2 y2) (.bool gv.no)) (repeat(first|(with_reducible exact HQ.out)|(with_reducible exact HQd.out)|(with_reducible refine BC.set ?_ (by omega) (by omega) _)|(with_reducible refine BC.drew ?_))) (fail)
  all_goals
   obtain⟨w5,hw5⟩:∃w5,w5=(((((((((w4.setCell ⟨w.heap.size,0,none⟩ (.int .i64 gv.a.kind)).setCell ⟨w.heap.size,1,none⟩ (.int .i64 gv.a.line)).setCell ⟨w.heap.size,2,none⟩ (.string ⟨gv.a.text.toArray⟩)).setCell ⟨w.heap.size,3,none⟩ (.iface i1 y1)).setCell ⟨w.heap.size,4,none⟩ (.int .i64 gv.b.kind)).setCell ⟨w.heap.size,5,none⟩ (.int .i64 gv.b.line)).setCell ⟨w.heap.size,6,none⟩ (.string ⟨gv.b.text.toArray⟩)).setCell ⟨w.heap.size,7,none⟩ (.iface i2 y2)).setCell ⟨w.heap.size,8,none⟩ (.bool gv.no)).drew:=⟨_,rfl⟩;rw[←hw5];have hz5:w5.heap[w.heap.size]? =some (.cells #[.int .i64 gv.a.kind,.int .i64 gv.a.line,.string ⟨gv.a.text.toArray⟩,.iface i1 y1,.int .i64 gv.b.kind,.int .i64 gv.b.line,.string ⟨gv.b.text.toArray⟩,.iface i2 y2,.bool gv.no] 30 (0,0)):=by rw[hw5];exact Zq (Zf HZ4.out (.int .i64 gv.a.kind) (.int .i64 gv.a.line) (.string ⟨gv.a.text.toArray⟩) (.iface i1 y1) (.int .i64 gv.b.kind) (.int .i64 gv.b.line) (.string ⟨gv.b.text.toArray⟩) (.iface i2 y2) (.bool gv.no))
   have f45:Fr (fun k=>k=w.heap.size) w4 w5:=by rw[hw5];exact(Zas (.int .i64 gv.a.kind) (.int .i64 gv.a.line) (.string ⟨gv.a.text.toArray⟩) (.iface i1 y1) (.int .i64 gv.b.kind) (.int .i64 gv.b.line) (.string ⟨gv.b.text.toArray⟩) (.iface i2 y2) (.bool gv.no)).drew
   have HFF:=hid (show Fr nob w w5 from FF4.out.trans f45 (fun i hi h=>by have h:i=w.heap.size:=h;omega));have HP1:=hid (RN.keep f45 (fun k _ h=>.inr (.inl h)) (fun _ _ x=>x.elim .inl (fun e=>.inr (.inr e))) _ _ RN1.out:RN (SO S' O0) w5 gv.a.tree (.iface i1 y1));have HR1:=hid (RN.keep f45 (fun k _ h=>.inr (.inl h)) (fun _ _ x=>x.elim) _ _ RN1.out:RN nob w5 gv.a.tree (.iface i1 y1));have HP2:=hid (RN.keep f45 (fun k _ h=>.inr (.inl h)) (fun _ _ x=>x.elim .inl (fun e=>.inr (.inr e))) _ _ RN2.out:RN (SO S' O0) w5 gv.b.tree (.iface i2 y2));have HT5:=hid (show∀k,S' k→w.heap.size≤k∧k<w5.heap.size from fun k hk=>⟨(HT4.out k hk).1,by have:=f45.size;have:=(HT4.out k hk).2;omega⟩);have HR2:=hid (RN.keep f45 (fun k _ h=>.inr (.inl h)) (fun _ _ x=>x.elim) _ _ RN2.out:RN nob w5 gv.b.tree (.iface i2 y2));have HMA:=hid (show OwM w5 ms (.slice am ms.length cm)from ownsRow_fr MA.out f45 (fun k hk h=>NR.out k hk h))
   have HZ5:=hid hz5;clear hw5 hz5 f45 rz r4;go_wp2;(try simp only[Exit.inBlock,Exit.then]);exact bodyPost_ret (ZbB rfl rfl HZ5.out) rfl ⟨_,_,rfl,⟨_,_,rfl,HR1.out,HR2.out⟩,HMA.out,HFF.out,S',HT1.out,HT5.out,⟨_,_,rfl,HP1.out,HP2.out⟩⟩
section
variable {l:List UInt8} {s:AdS} {N:Nat}
theorem Z0(e:Int)(p:Nat)(h:s.marks.length≤N):(failC s e p).marks.length≤N:=by unfold failC;split<;>assumption
theorem Zba(e:Int)(p:Nat)(h:s.marks.length≤N):(ZV s p e).marks.length≤N:=by unfold ZV;split<;>assumption
theorem ZgN(must:Bool)(h:s.marks.length≤N):(labelC l must s).2.marks.length≤N:=by
 unfold labelC;split
 ·exact Zba _ _ h
 ·exact Zba _ _ h
theorem ZiI(h:s.marks.length≤N):(ZaR l s).2.marks.length≤N:=by
 unfold ZaR;split
 ·exact Z0 _ _ h
 ·exact Zba _ _ h
theorem Zld(b:Nat)(h:s.marks.length≤N):(Zah l b s).2.marks.length≤N+1:=by
 unfold Zah;simp only;have h1:(s.to (bhd l [32,9] s.at_)).marks.length≤N+1:=Nat.le_succ_of_le h;split
 ·exact Z0 _ _ h1
 ·split
  ·exact Z0 _ _ h1
  ·split
   ·exact Zba _ _ h1
   ·refine Zba _ _ ?_;show(s.marks++[_]).length≤N+1;rw[List.length_append];simpa using h
theorem ZgO(h:s.marks.length≤N):(Zv l s).2.marks.length≤N:=by
 unfold Zv;split
 ·exact Z0 _ _ h
 ·split
  ·exact Z0 _ _ h
  ·exact h
theorem ZdS(d:UInt8)(rx:Bool)(h:s.marks.length≤N):(Zr l d rx s).2.marks.length≤N:=by
 unfold Zr;split
 ·exact h
 ·exact Zba _ _ h
theorem ZmM(d:UInt8)(rx:Bool):(Zr l d rx s).1.length≤l.length:=by
 unfold Zr;split
 ·exact Nat.zero_le _
 ·have:=ZdC l d rx (l.length+1) s.at_ [];simp only[List.length_nil]at this;show(bt l d rx (l.length+1) s.at_ []).1.length≤_;omega
theorem Zle(x:Bool)(d:UInt8)(hs:s.at_≤l.length)(h:s.marks.length≤N):(Zav x l d s).2.marks.length≤N+l.length:=by
 unfold Zav;simp only;have hb:=ZdS (l:=l) d true h;have hb':=ZmM (l:=l) (s:=s) d true;have h2:(if(Zr l d true s).2.e=0∧(Zr l d true s).1=[]then failC (Zr l d true s).2 2 s.at_ else(Zr l d true s).2).marks.length≤N:=by
  split
  ·exact Z0 _ _ hb
  ·exact hb
 generalize(if(Zr l d true s).2.e=0∧(Zr l d true s).1=[]then failC (Zr l d true s).2 2 s.at_ else(Zr l d true s).2)=s2 at h2⊢;split
 ·exact Nat.le_trans h2 (Nat.le_add_right _ _)
 ·cases hp:Zac prg x (Zr l d true s).1 with
  |inl z=>exact Nat.le_trans (Z0 _ _ h2) (Nat.le_add_right _ _)
  |inr z=>
   obtain⟨n,r⟩:=z;have h3:=(parseD_marks hp).2.1;show(s2.marks++r.marks.map (shM s.at_)).length≤_;rw[List.length_append,List.length_map];omega
theorem ZmN(sub:SV)(h:s.marks.length≤N):(Zap l sub s).2.2.marks.length≤N:=by
 unfold Zap;split
 ·simp only;split;exact Z0 _ _ h;exact h
 ·split
  ·simp only;split;exact Z0 _ _ h;exact h
  ·split
   ·simp only;split
    ·exact Z0 _ _ h
    ·have hm:=Zba (nm s.at_ (l.drop s.at_) 0 0).2.2 (nm s.at_ (l.drop s.at_) 0 0).2.1 h;split
     ·exact Z0 _ _ hm
     ·exact hm
   ·split
    ·exact ZiI h
    ·exact h
theorem ZgP:∀(n:Nat) (sub:SV) (s:AdS),s.marks.length≤N→(Zai l n sub s).2.marks.length≤N
 |0,_,_,h=>h
 |n+1,sub,s,h=>by
  rw[Zai];have hf:=ZmN (l:=l) sub h;cases hr:Zap l sub s with
  |mk a b=>
   rw[hr]at hf;obtain⟨b,c⟩:=b;cases a with
   |true=>exact ZgP n b c hf
   |false=>exact hf
theorem Zos(x:Bool)(hs:s.at_≤l.length)(h:s.marks.length≤N):(Zet x l s).2.marks.length≤N+l.length:=by
 unfold Zet;simp only;have h1:=ZgO (l:=l) h;have hs1:=Za7 hs;split
 ·exact Nat.le_trans h1 (Nat.le_add_right _ _)
 ·have h2:=Zle x (Zv l s).1 hs1 h1;have h3:=ZdS (l:=l) (Zv l s).1 false h2;split
  ·exact h3
  ·split
   ·exact Z0 _ _ h3
   ·exact ZgP _ _ _ h3
theorem Zlf(h:s.marks.length≤N):(ZaP l s).2.marks.length≤N:=by
 unfold ZaP;simp only;have h1:=ZgO (l:=l) h;have h2:=ZdS (l:=l) (Zv l s).1 false h1;have h3:=ZdS (l:=l) (Zv l s).1 false h2;split
 ·exact h3
 ·split
  ·exact Z0 _ _ h3
  ·split
   ·exact h3
   ·exact Z0 _ _ h3
theorem Zfu(x:Bool)(c:CV)(hs:s.at_≤l.length)(h:s.marks.length≤N):(argsC x l c s).2.2.marks.length≤N+l.length+1:=by
 unfold argsC;split
 ·show s.marks.length≤_;omega
 split
 ·have:=ZgN (l:=l) true h;show(labelC l true s).2.marks.length≤_;omega
 split
 ·have:=ZgN (l:=l) false h;show(labelC l false s).2.marks.length≤_;omega
 split
 ·have:=Zld (l:=l) c.at_ h;show(Zah l c.at_ s).2.marks.length≤_;omega
 split
 ·have:=ZiI (l:=l) h;show(ZaR l s).2.marks.length≤_;omega
 split
 ·have:=Zos x hs h;show(Zet x l s).2.marks.length≤_;omega
 split
 ·have:=Zlf (l:=l) h;show(ZaP l s).2.marks.length≤_;omega
 ·show s.marks.length≤_;omega
end
theorem Zlg{l:List UInt8}{a b:AV}{s s':AdS}{g:GV}(h:ZgT l a b s=.inr (g,s')):s'.marks=s.marks:=by
 unfold ZgT at h;split at h
 ·split at h
  ·cases h
  ·injection h with h;injection h with _ h;subst h;rfl
 ·injection h with h;injection h with _ h;subst h;rfl
theorem guardD_mk{x:Bool}{l:List UInt8}{p:Nat}{g:GV}{s':AdS}(hp:p≤l.length)(h:ZX x l ⟨p,[],0⟩=.inr (g,s')):s'.marks.length≤2*l.length+2:=by
 unfold ZX at h;cases ha:addrD x l false ⟨p,[],0⟩with
 |inl e=>rw[ha]at h;cases h
 |inr z=>
  obtain⟨a,s1⟩:=z;rw[ha]at h;simp only at h;have h1:s1.marks.length≤([]:List (Nat×List UInt8)).length+l.length+1:=(Zam (s:=⟨p,[],0⟩) hp rfl ha).mks;simp only[List.length_nil]at h1;by_cases hk:a.kind=0
  ·rw[if_pos hk]at h;simp only at h;rw[Zlg h];omega
  ·rw[if_neg hk]at h;cases hb:Zbc x l s1 with
   |inl e=>rw[hb]at h;cases h
   |inr z=>
    obtain⟨b,s2⟩:=z;rw[hb]at h;simp only at h;have h2:=(pairD_in hb).mks;rw[Zlg h];omega
def AV.same(a b:AV):Prop:=a.kind=b.kind∧((a.kind=1∨a.kind=4)→a.line=b.line)∧(a.kind=3→a.tree.norm=b.tree.norm)
theorem ZiJ(a b:AV)(va vb:Value)(w:World)(sa:a.tree.size≤3000000)(sb:b.tree.size≤3000000)(ha:ZkS nob w a va)(hb:ZkS nob w b vb):
 Calls Tryz.prog 60 #[va,vb] w fun e w'=>∃r:Bool,e=.returned (.bool r)∧(r=true↔AV.same a b)∧Fr nob w w':=by
 obtain⟨k1,n1,t1,d1⟩:=a;obtain⟨k2,n2,t2,d2⟩:=b;obtain⟨u1,rfl,r1⟩:=ha;obtain⟨u2,rfl,r2⟩:=hb;simp only at sa sb r1 r2⊢;have o1:=r1.shape;have o2:=r2.shape;have HS:=hid (fun(w':World) (f:Fr nob w w')=>Zig 3000000 d1 d2 u1 u2 w' sa sa sb (r1.on f) (r2.on f));clear r1 r2;unfold AV.same;simp only;rcases o1 with rfl|⟨i1,y1,rfl⟩<;>rcases o2 with rfl|⟨i2,y2,rfl⟩
 all_goals
  by_cases hk:k1=k2
  ·subst hk;by_cases h1:k1=1
   ·subst h1;go_enter Tryz.func60,Tryz.ntmps60;go_wp2;go_ret;exact⟨_,rfl,by simp,((Fr.refl nob w).alloc _).alloc _⟩
   ·by_cases h4:k1=4
    ·subst h4;go_enter Tryz.func60,Tryz.ntmps60;go_wp2;go_ret;exact⟨_,rfl,by simp,((Fr.refl nob w).alloc _).alloc _⟩
    ·by_cases h3:k1=3
     ·subst h3;go_enter Tryz.func60,Tryz.ntmps60;go_wp2_with fail;refine(HS.out _ (((Fr.refl nob w).alloc _).alloc _)).mono ?_;rintro e w3 ⟨r,rfl,hr,f3⟩;have F3:=hid ((((Fr.refl nob w).alloc _).alloc _).trans' f3);clear f3;go_wp2;go_ret;exact⟨_,rfl,by rw[hr];simp,F3.out⟩
     ·have e1:(k1==1)=false:=by simpa using h1
      have e4:(k1==4)=false:=by simpa using h4
      have e3:(k1==3)=false:=by simpa using h3
      have H:=hid (And.intro h1 (And.intro h4 h3));clear h1 h4 h3;go_enter Tryz.func60,Tryz.ntmps60;go_wp2;go_ret;exact⟨_,rfl,by have:=H.out;simp[this.1,this.2.1,this.2.2],((Fr.refl nob w).alloc _).alloc _⟩
  ·have e1:(k1==k2)=false:=by simpa using hk
   have H:=hid hk;clear hk;go_enter Tryz.func60,Tryz.ntmps60;go_wp2;go_ret;exact⟨_,rfl,by simp[H.out],((Fr.refl nob w).alloc _).alloc _⟩
def GV.same(a b:GV):Prop:=AV.same a.a b.a∧AV.same a.b b.b∧a.no=b.no
theorem ZjC(g h:GV)(vg vh:Value)(w:World)(s1:g.a.tree.size≤3000000)(s2:g.b.tree.size≤3000000)(s3:h.a.tree.size≤3000000)(s4:h.b.tree.size≤3000000)(hg:Zni nob w g vg)(hh:Zni nob w h vh):
 Calls Tryz.prog 32 #[vg,vh] w fun e w'=>∃r:Bool,e=.returned (.bool r)∧(r=true↔GV.same g h)∧Fr nob w w':=by
 obtain⟨A,B,n⟩:=g;obtain⟨C,D,m⟩:=h;obtain⟨u1,u2,rfl,r1,r2⟩:=hg;obtain⟨u3,u4,rfl,r3,r4⟩:=hh;simp only at s1 s2 s3 s4 r1 r2 r3 r4⊢;have o1:=r1.shape;have o2:=r2.shape;have o3:=r3.shape;have o4:=r4.shape;have HA:=hid (fun(w':World) (f:Fr nob w w')=>ZiJ A C _ _ w' s1 s3 ⟨u1,rfl,r1.on f⟩ ⟨u3,rfl,r3.on f⟩);have HB:=hid (fun(w':World) (f:Fr nob w w')=>ZiJ B D _ _ w' s2 s4 ⟨u2,rfl,r2.on f⟩ ⟨u4,rfl,r4.on f⟩);clear r1 r2 r3 r4 s1 s2 s3 s4;unfold GV.same;simp only;rcases o1 with rfl|⟨i1,y1,rfl⟩<;>rcases o2 with rfl|⟨i2,y2,rfl⟩<;>rcases o3 with rfl|⟨i3,y3,rfl⟩<;>rcases o4 with rfl|⟨i4,y4,rfl⟩
 all_goals
  go_enter Tryz.func32,Tryz.ntmps32;go_wp2_with fail;refine(HA.out _ (((Fr.refl nob w).alloc _).alloc _)).mono ?_;rintro e w3 ⟨r,rfl,hr,f3⟩;have g1:=f3.heap (((Fr.refl nob _).alloc _).heap (newAt0 w _) (fun x=>x)) (fun x=>x);have g2:=f3.heap (newAt0 (w.alloc _) _) (fun x=>x);rw[show∀B,(w.alloc B).heap.size=w.heap.size+1 from fun B=>by simp]at g2;have ra:=Zk g1;have rb:=Zk g2;have F3:=hid ((((Fr.refl nob w).alloc _).alloc _).trans' f3);have HR:=hid hr;have G1:=hid g1;have G2:=hid g2;clear hr g1 g2 f3;cases r with
  |false=>
   go_wp2;go_ret;exact⟨_,rfl,by simp only[←HR.out];simp,F3.out⟩
  |true=>
   go_wp2_with fail;refine(HB.out _ F3.out).mono ?_;rintro e w4 ⟨r,rfl,hr,f4⟩;have F4:=hid (F3.out.trans' f4);have HR2:=hid hr;have ra4:=Zk (f4.heap G1.out (fun x=>x));have rb4:=Zk (f4.heap G2.out (fun x=>x));clear hr f4 ra rb;cases r with
   |false=>
    go_wp2;go_ret;exact⟨_,rfl,by simp only[←HR2.out];simp,F4.out⟩
   |true=>
    rcases(by cases n<;>cases m<;>simp:(n=m∧(n==m)=true)∨(n≠m∧(n==m)=false))with⟨e,e2⟩|⟨e,e2⟩
    ·have E:=hid e;clear e;go_wp2;go_ret;exact⟨_,rfl,by simp only[←HR.out,←HR2.out,E.out];simp,F4.out⟩
    ·have E:=hid e;clear e;go_wp2;go_ret;exact⟨_,rfl,by simp only[←HR.out,←HR2.out];simp[E.out],F4.out⟩
theorem Zow{l:List UInt8}{s:AdS}:(Zjq l s).marks.length≤s.marks.length+1:=by
 unfold Zjq;simp only;split
 ·show s.marks.length≤_;omega
 ·split
  ·show(s.marks++[_]).length≤_;simp
  ·exact Z0 (s:=s.to (bhd l [32,9] s.at_)) 17 _ (by show s.marks.length≤_;omega)
theorem Zox{l:List UInt8}{x:Bool}{g:GV}{s:AdS}{N:Nat}(hs:s.at_≤l.length)(h:s.marks.length≤N)(h0:(ZbY x l g s).2.e=0):(ZbY x l g s).2.marks.length≤N+l.length+3:=by
 have hok:=Zk4 h0;unfold ZbY at h0⊢;rw[if_neg (by omega)]at h0⊢;simp only at h0⊢;rw[if_neg (show¬ZM (byt l s.at_)<0 by omega),if_neg hok.2.2.1]at h0⊢;obtain⟨s1,hs1⟩:∃s1,(if byt l s.at_=81∨byt l s.at_=84∨byt l s.at_=122 then Zan s s.at_ [byt l s.at_]else s)=s1:=⟨_,rfl⟩;rw[hs1]at h0⊢;have hm1:s1.marks.length≤N+1∧s1.at_=s.at_:=by
  rw[←hs1];split
  ·exact⟨by show(s.marks++[_]).length≤_;simp;omega,rfl⟩
  ·exact⟨by omega,rfl⟩
 split
 ·show s1.marks.length≤_;omega
 ·have key:∀C,(argsC x l C (s1.to (s1.at_+1))).2.2.marks.length≤N+1+l.length+1:=fun C=>Zfu (l:=l) (s:=s1.to (s1.at_+1)) (N:=N+1) x C (by show s1.at_+1≤_;rw[hm1.2];exact hok.1) (by show s1.marks.length≤_;omega);split
  ·exact Nat.le_trans Zow (Nat.le_trans (Nat.succ_le_succ (key _)) (by omega))
  ·exact Nat.le_trans (key _) (by omega)
theorem Zoy{x:Bool}{l:List UInt8}{p:Nat}{c:CV}{q:AdS}(hp:p≤l.length)(h:Zeu x l p=.inr (c,q)):q.marks.length≤3*l.length+5∧c.at_≤l.length:=by
 unfold Zeu at h;cases hg:ZX x l ⟨p,[],0⟩with
 |inl z=>rw[hg]at h;cases h
 |inr z=>
  obtain⟨g,s⟩:=z;rw[hg]at h;simp only at h;split at h
  ·cases h
  ·next h0=>
   injection h with h;have hs:=guardD_le (s:=⟨p,[],0⟩) hp rfl hg;have he:(ZbY x l g s).2.e=0:=by simpa using h0
   have h1:=Zox (x:=x) (g:=g) hs (guardD_mk hp hg) he;have h2:=Zk4 he;rw[h]at h1 h2;simp only at h1;exact⟨by omega,by have:=h2.2.2.2.1;simp only at this;omega⟩
theorem cmdD_bad{x:Bool}{l:List UInt8}{p:Nat}{z:Int×Nat}(h:Zeu x l p=.inl z):z.1≠0:=by
 unfold Zeu at h;cases hg:ZX x l ⟨p,[],0⟩with
 |inl y=>rw[hg]at h;injection h with h;subst h;exact guardD_err hg
 |inr y=>
  obtain⟨g,s⟩:=y;rw[hg]at h;simp only at h;split at h
  ·next h0=>injection h with h;subst h;exact h0
  ·cases h
structure RdW(l:List UInt8)(s:RdS):Prop where
 cm:s.cmds.length≤100
 op:s.opens.length≤12
 la:s.labels.length≤s.cmds.length
 at_:∀c∈s.cmds,c.at_≤l.length
theorem RdW.zero(l:List UInt8):RdW l RdS.zero:=⟨Nat.zero_le _,Nat.zero_le _,Nat.zero_le _,fun _ h=>by cases h⟩
theorem RdW.put{l:List UInt8}{s s':RdS}{c:CV}(h:RdW l s)(hn:s.cmds.length≠100)(hc:c.at_≤l.length)(hp:ZbZ c s=.inr s'):RdW l s':=by
 have key:∀d∈s.cmds++[c],d.at_≤l.length:=fun d hd=>by
  rcases List.mem_append.1 hd with hd|hd
  ·exact h.at_ d hd
  ·rw[List.mem_singleton.1 hd];exact hc
 have h1:=h.cm;have h2:=h.op;have h3:=h.la;unfold ZbZ at hp;split at hp
 ·split at hp
  ·cases hp
  ·next hb=>injection hp with hp;subst hp;exact⟨by simp;omega,by simp;omega,by simp;omega,key⟩
 ·split at hp
  ·split at hp
   ·cases hp
   ·injection hp with hp;subst hp;exact⟨by simp;omega,by simp;omega,by simp;omega,key⟩
  ·split at hp
   ·split at hp
    ·cases hp
    ·injection hp with hp;subst hp;exact⟨by simp;omega,by simp;omega,by simp;omega,key⟩
   ·injection hp with hp;subst hp;exact⟨by simp;omega,by simp;omega,by simp;omega,key⟩
theorem ZiK{s s':RdS}{c:CV}(hp:ZbZ c s=.inr s'):s'.cmds=s.cmds++[c]:=by
 unfold ZbZ at hp
 repeat' split at hp
 all_goals first|(cases hp;done)|(injection hp with hp;subst hp;rfl)
theorem put_err{s:RdS}{c:CV}{z:Int}(hp:ZbZ c s=.inl z):z≠0:=by
 unfold ZbZ at hp
 repeat' split at hp
 all_goals first|(injection hp with hp;subst hp;decide)|(cases hp;done)
theorem whole_err{s:RdS}{z:Int}{p:Nat}(h:Za8 s=some (z,p)):z≠0:=by
 unfold Za8 at h;split at h
 ·injection h with h;injection h with h _;subst h;decide
 ·split at h
  ·injection h with h;injection h with h _;subst h;decide
  ·cases h
theorem scrL_end{x:Bool}{l:List UInt8}{n k:Nat}{s:RdS}{ms:List (Nat×List UInt8)}(h:l.length≤k):Zdm x l n k s ms=.inr (s,ms):=by
 cases n with
 |zero=>rfl
 |succ n=>rw[Zdm,if_pos h]
theorem Zel{x:Bool}{l:List UInt8}{n k:Nat}{s:RdS}{ms:List (Nat×List UInt8)}(h:¬l.length≤k)(hc:s.cmds.length=100):Zdm x l (n+1) k s ms=.inl (3,k):=by
 rw[Zdm,if_neg h,if_pos hc]
theorem Zfv{x:Bool}{l:List UInt8}{n k:Nat}{s:RdS}{ms:List (Nat×List UInt8)}{z:Int×Nat}(h:¬l.length≤k)(hc:¬s.cmds.length=100)(h1:Zeu x l k=.inl z):Zdm x l (n+1) k s ms=.inl z:=by
 rw[Zdm,if_neg h,if_neg hc,h1]
theorem ZhW{x:Bool}{l:List UInt8}{n k:Nat}{s:RdS}{ms:List (Nat×List UInt8)}{c:CV}{q:AdS}{z:Int}(h:¬l.length≤k)(hc:¬s.cmds.length=100)(h1:Zeu x l k=.inr (c,q))(h2:ZbZ c s=.inl z):Zdm x l (n+1) k s ms=.inl (z,c.at_):=by
 rw[Zdm,if_neg h,if_neg hc,h1];simp only[h2]
theorem ZhX{x:Bool}{l:List UInt8}{n k:Nat}{s s':RdS}{ms:List (Nat×List UInt8)}{c:CV}{q:AdS}(h:¬l.length≤k)(hc:¬s.cmds.length=100)(h1:Zeu x l k=.inr (c,q))(h2:ZbZ c s=.inr s'):Zdm x l (n+1) k s ms=Zdm x l n (Zaq l (l.length+1) q.at_) s' (ms++q.marks):=by
 rw[Zdm,if_neg h,if_neg hc,h1];simp only[h2]
end Go.Proofs.YtkfddjopbocpkaaGreatDoor
