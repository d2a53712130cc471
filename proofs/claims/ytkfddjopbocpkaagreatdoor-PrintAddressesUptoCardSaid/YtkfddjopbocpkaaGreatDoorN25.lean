/- Lemmas of this claim. -/
import Derived.Test.YtkfddjopbocpkaaGreatDoorN16
import Derived.Test.YtkfddjopbocpkaaGreatDoorN24
set_option linter.unusedVariables false
set_option linter.unusedSimpArgs false
set_option maxRecDepth 100000
set_option maxHeartbeats 4000000
namespace Go.Proofs.YtkfddjopbocpkaaGreatDoor
open Go.Lib (hid)
open Go.RowKit
theorem Zu0(a b a' b':Int)(k:Nat)(w:World):(Op.equalIn (k+2) 257 (.agg #[.int .i64 a,.int .i64 b]) (.agg #[.int .i64 a',.int .i64 b'])).run Tryz.prog w=.ok ([a,b]==[a',b']) w:=
 Zdx w .i64 k 257 3 2 Tryz.underlying257 Tryz.underlying3 (fun _=>by kernel_rfl) [a,b] [a',b'] rfl rfl
theorem ZvV(a b a' b':Int):([a,b]==[a',b'])=(a==a'&&b==b'):=by simp
theorem Ztn(a b a' b':Int)(w:World):(Op.equalIn 10000 257 (.agg #[.int .i64 a,.int .i64 b]) (.agg #[.int .i64 a',.int .i64 b'])).run Tryz.prog w=.ok (a==a'&&b==b') w:=by
 rw[Zu0 a b a' b' 9998 w,ZvV]
attribute [local go_sem] Ztn
def ZsR(mn mx:Int):List UInt8:=
 if mn=0∧mx= -1 then[42]else if mn=1∧mx= -1 then[43]else if mn=0∧mx=1 then[63]
 else[123]++Lib.decDigits mn.toNat++(if mx=mn then[]else if mx= -1 then[44]else[44]++Lib.decDigits mx.toNat)++[125]
section
variable {W0 w w':World} {K:Nat→Prop} {b:Nat} {out:List UInt8}
theorem ZsX(mn mx:Int)(c:UInt8)(h:TxW W0 K b out w)(hlen:out.length≤10000000000000)(hc:(mn=0∧mx= -1∧c=42)∨(mn=1∧mx= -1∧c=43)∨(mn=0∧mx=1∧c=63)):
 Calls Tryz.prog 136 #[.pointer (some ⟨b,0,none⟩),.int .i64 mn,.int .i64 mx] w (TxA W0 K b (out++[c]) w (.tuple #[])):=by
 have HT:=hid h;clear h;rcases hc with⟨rfl,rfl,rfl⟩|⟨rfl,rfl,rfl⟩|⟨rfl,rfl,rfl⟩
 ·go_enter Tryz.func136,Tryz.ntmps136;go_wp2_with fail;refine(tx_byte 42 42 (by decide) rfl HT.out (by omega)).mono ?_;rintro e w4 ⟨rfl,h4,f4⟩;have H4:=hid h4;have F4:=hid f4;clear h4 f4;go_wp2;exact bodyPost_ret (results_none rfl _ _ _) rfl ⟨rfl,H4.out,F4.out⟩
 ·go_enter Tryz.func136,Tryz.ntmps136;go_wp2_with fail;refine(tx_byte 43 43 (by decide) rfl HT.out (by omega)).mono ?_;rintro e w4 ⟨rfl,h4,f4⟩;have H4:=hid h4;have F4:=hid f4;clear h4 f4;go_wp2;exact bodyPost_ret (results_none rfl _ _ _) rfl ⟨rfl,H4.out,F4.out⟩
 ·go_enter Tryz.func136,Tryz.ntmps136;go_wp2_with fail;refine(tx_byte 63 63 (by decide) rfl HT.out (by omega)).mono ?_;rintro e w4 ⟨rfl,h4,f4⟩;have H4:=hid h4;have F4:=hid f4;clear h4 f4;go_wp2;exact bodyPost_ret (results_none rfl _ _ _) rfl ⟨rfl,H4.out,F4.out⟩
theorem Zs4:∀n:Nat,n≤100000→(Lib.decDigits n).length≤6:=by
 intro n hn;have h:∀k m,m<10^(k+1)→(Lib.decDigits m).length≤k+1:=by
  intro k;induction k with
  |zero=>intro m hm;rw[Lib.decDigits,dif_pos (by omega)];simp
  |succ k ih=>
   intro m hm;rw[Lib.decDigits];split
   ·simp
   ·rw[List.length_append];have:=ih (m/10) (by rw[Nat.pow_succ]at hm;omega);simp;omega
 exact h 5 n (by omega)
theorem ZtR(m:Nat)(mx:Int)(h:TxW W0 K b out w)(hlen:out.length≤10000000000000)(hP:P10 W0)(hm:m≤255)(hx:mx= -1∨((m:Int)≤mx∧mx≤255))
 (h1:¬((m:Int)=0∧mx= -1)) (h2:¬((m:Int)=1∧mx= -1)) (h3:¬((m:Int)=0∧mx=1)):
 Calls Tryz.prog 136 #[.pointer (some ⟨b,0,none⟩),.int .i64 (m:Int),.int .i64 mx] w (TxA W0 K b (out++ZsR m mx) w (.tuple #[])):=by
 have t1:(((m:Int)==0)&&(mx== -1))=false:=by rw[Bool.and_eq_false_iff];simp;omega
 have t2:(((m:Int)==1)&&(mx== -1))=false:=by rw[Bool.and_eq_false_iff];simp;omega
 have t3:(((m:Int)==0)&&(mx==1))=false:=by rw[Bool.and_eq_false_iff];simp;omega
 have r:ZsR m mx=[123]++Lib.decDigits m++(if mx=m then[]else if mx= -1 then[44]else[44]++Lib.decDigits mx.toNat)++[125]:=by
  unfold ZsR;rw[if_neg h1,if_neg h2,if_neg h3];rfl
 have t:=Zs4 m (by omega);have HI:=hid (fun w' (f:Fr nob W0 w')=>Ztz m w' (by omega) (hP.on f));have q:mx≠ -1→(Lib.decDigits mx.toNat).length≤6:=fun _=>Zs4 mx.toNat (by omega);have n:=hid (show mx≠ -1→∀w' (f:Fr nob W0 w'),Calls Tryz.prog 43 #[.int .i64 mx] w' fun e w''=>e=.returned (.string ⟨(Lib.decDigits mx.toNat).toArray⟩)∧Fr nob w' w'' from fun hne w' f=>by
  have:=Ztz mx.toNat w' (by omega) (hP.on f);rwa[show((mx.toNat:Nat):Int)=mx by omega]at this)
 have HT:=hid h;have a:=hid r;have HX:=hid hx;have l:=hid q;obtain⟨D,hD⟩:∃D,Lib.decDigits m=D:=⟨_,rfl⟩;rw[hD]at HI a t;obtain⟨X,hX⟩:∃X,[123]++D=X:=⟨_,rfl⟩;have u:X.length≤7:=by rw[←hX];simp;omega
 have ar:∀w',(Op.stringOp .add ⟨#[123]⟩ ⟨D.toArray⟩).run Tryz.prog w'=.ok (.string ⟨X.toArray⟩) w':=fun w'=>by rw[←hX];exact run_string_add_lists w' [123] D (by decide) (by omega)
 rw[hX]at a;clear hX;clear h r hx h1 h2 h3 hP hD q;go_enter Tryz.func136,Tryz.ntmps136;go_wp2_with fail;refine region_fr 6 (by kernel_rfl) (by kernel_rfl) ?_;simp only[List.take_succ_cons,List.take_zero,List.drop_succ_cons,List.drop_zero]
 repeat(quiet_step ((with_reducible exact calls_fr (HI.out _ (Fr.trans' HT.out.fr (grown_fr _ _ _))))))
 refine wpQuiet_nil ?_;intro w1 f1;have H1:=hid (HT.out.quiet f1);have F1:=hid (Fr.toTx (W0:=W0) (K:=K) f1);clear f1;go_wp2_with fail;refine(tx_str X H1.out (by omega)).mono ?_;rintro e w2 ⟨rfl,h2,f2⟩;have H2:=hid h2;have F2:=hid (F1.out.trans f2 (fun i _ x=>x));clear h2 f2;have j:∀(o:List UInt8) (w3:World),TxW W0 K b o w3→o.length≤20000000000000→Calls Tryz.prog 77 #[.pointer (some ⟨b,0,none⟩),.int .u8 125] w3 (TxA W0 K b (o++[125]) w3 .nilIface):=fun o w3 h ho=>tx_byte 125 125 (by decide) rfl h (by omega);have g:=hid j;clear j;by_cases c:mx=m
 ·have q1:(mx !=(m:Int))=false:=by simp[c]
  have q2:¬(m:Int)<mx:=by omega
  rw[if_pos c]at a;clear c;go_wp2_with fail;refine(g.out _ w2 H2.out (by simp;omega)).mono ?_;rintro e w3 ⟨rfl,h3,f3⟩;have H3:=hid h3;have F3:=hid (F2.out.trans f3 (fun i _ x=>x));clear h3 f3;go_wp2
  go_end0
  exact⟨rfl,by rw[a.out];simpa[List.append_assoc]using H3.out,F3.out⟩
 ·have q1:(mx !=(m:Int))=true:=by simp[c]
  rw[if_neg c]at a;go_wp2_with fail;refine(tx_byte 44 44 (by decide) rfl H2.out (by simp;omega)).mono ?_;rintro e w3 ⟨rfl,h3,f3⟩;have H3:=hid h3;have F3:=hid (F2.out.trans f3 (fun i _ x=>x));clear h3 f3;by_cases d:mx= -1
  ·have q2:¬(m:Int)<mx:=by omega
   rw[if_pos d]at a;clear c d;go_wp2_with fail;refine(g.out _ w3 H3.out (by simp;omega)).mono ?_;rintro e w4 ⟨rfl,h4,f4⟩;have H4:=hid h4;have F4:=hid (F3.out.trans f4 (fun i _ x=>x));clear h4 f4;go_wp2
   go_end0
   exact⟨rfl,by rw[a.out];simpa[List.append_assoc]using H4.out,F4.out⟩
  ·have q2:(m:Int)<mx:=by have:=HX.out;omega
   rw[if_neg d]at a;have hY:=l.out d;have k:=n.out d;obtain⟨Y,p⟩:∃Y,Lib.decDigits mx.toNat=Y:=⟨_,rfl⟩;rw[p]at a hY k;have s:=hid k;clear c d p n l k;go_wp2_with fail;refine region_fr 5 (by kernel_rfl) (by kernel_rfl) ?_;simp only[List.take_succ_cons,List.take_zero,List.drop_succ_cons,List.drop_zero]
   repeat(quiet_step ((with_reducible exact calls_fr (s.out _ (Fr.trans' H3.out.fr (grown_fr _ _ _))))))
   refine wpQuiet_nil ?_;intro w4 f4;have H4:=hid (H3.out.quiet f4);have F4:=hid (F3.out.trans (Fr.toTx (W0:=W0) (K:=K) f4) (fun i _ x=>x));clear f4;go_wp2_with fail;refine(tx_str Y H4.out (by simp;omega)).mono ?_;rintro e w5 ⟨rfl,h5,f5⟩;have H5:=hid h5;have F5:=hid (F4.out.trans f5 (fun i _ x=>x));clear h5 f5;go_wp2_with fail;refine(g.out _ w5 H5.out (by simp;omega)).mono ?_;rintro e w6 ⟨rfl,h6,f6⟩;have H6:=hid h6;have F6:=hid (F5.out.trans f6 (fun i _ x=>x));clear h6 f6;go_wp2
   go_end0
   exact⟨rfl,by rw[a.out];simpa[List.append_assoc]using H6.out,F6.out⟩
theorem show_times(mn mx:Int)(h:TxW W0 K b out w)(hlen:out.length≤10000000000000)(hP:P10 W0)(hr:repOk true mn mx=true):
 Calls Tryz.prog 136 #[.pointer (some ⟨b,0,none⟩),.int .i64 mn,.int .i64 mx] w (TxA W0 K b (out++ZsR mn mx) w (.tuple #[])):=by
 unfold repOk at hr;simp only[Bool.true_and,Bool.and_eq_true,Bool.or_eq_true,decide_eq_true_eq,beq_iff_eq]at hr;by_cases h1:mn=0∧mx= -1
 ·have:=ZsX mn mx 42 h hlen (.inl ⟨h1.1,h1.2,rfl⟩);unfold ZsR;rw[if_pos h1];exact this
 ·by_cases h2:mn=1∧mx= -1
  ·have:=ZsX mn mx 43 h hlen (.inr (.inl ⟨h2.1,h2.2,rfl⟩));unfold ZsR;rw[if_neg h1,if_pos h2];exact this
  ·by_cases h3:mn=0∧mx=1
   ·have:=ZsX mn mx 63 h hlen (.inr (.inr ⟨h3.1,h3.2,rfl⟩));unfold ZsR;rw[if_neg h1,if_neg h2,if_pos h3];exact this
   ·obtain⟨m,rfl⟩:∃m:Nat,(m:Int)=mn:=⟨mn.toNat,by omega⟩;exact ZtR m mx h hlen hP (by omega) (by omega) h1 h2 h3
end
end Go.Proofs.YtkfddjopbocpkaaGreatDoor
namespace Go.Proofs.YtkfddjopbocpkaaGreatDoor
open Go.RowKit
mutual
def Nd.txt:Nd→List UInt8
 | .nil| .empty=>[]
 | .one s=>setT s
 | .cat l=>Nd.txts l
 | .alt l=>Nd.txta l
 | .rep x mn mx=>x.txt++ZsR mn mx
 | .group _ x=>[40]++(x.txt++[41])
 | .back n=>[92]++Lib.decDigits n.toNat
 | .start=>[94]
 | .fin=>[36]
def Nd.txts:List Nd→List UInt8
 |[]=>[]
 |x::r=>x.txt++Nd.txts r
def Nd.txta:List Nd→List UInt8
 |[]=>[]
 |[x]=>x.txt
 |x::y::r=>x.txt++([124]++Nd.txta (y::r))
end
mutual
def Nd.shw:Nd→Prop
 | .one s=>s.fit
 | .cat l| .alt l=>Nd.shws l
 | .rep x mn mx=>x.shw∧repOk true mn mx=true
 | .group _ x=>x.shw
 | .back n=>0≤n∧n≤100000
 |_=>True
def Nd.shws:List Nd→Prop
 |[]=>True
 |x::r=>x.shw∧Nd.shws r
end
theorem Nd.shws_mem{l:List Nd}(h:Nd.shws l):∀x∈l,x.shw:=by
 induction l with
 |nil=>intro x hx;cases hx
 |cons a r ih=>intro x hx;rcases List.mem_cons.1 hx with rfl|hx;exact h.1;exact ih h.2 x hx
theorem timesT_le{mn mx:Int}(h:repOk true mn mx=true):(ZsR mn mx).length≤15:=by
 unfold repOk at h;simp only[Bool.true_and,Bool.and_eq_true,Bool.or_eq_true,decide_eq_true_eq,beq_iff_eq]at h;have h1:=Zs4 mn.toNat (by omega);have h2:=Zs4 mx.toNat (by omega);unfold ZsR;split
 ·simp
 ·split
  ·simp
  ·split
   ·simp
   ·split
    ·simp;omega
    ·split
     ·simp;omega
     ·simp;omega
mutual
theorem Nd.txt_le:∀n:Nd,n.shw→n.txt.length+1≤3000*n.size
 | .nil,_| .empty,_=>by simp[Nd.txt,Nd.size]
 | .start,_| .fin,_=>by simp[Nd.txt,Nd.size]
 | .one s,_=>by have:=Zvw s;simp only[Nd.txt,Nd.size];omega
 | .cat l,h=>by have:=Nd.txts_le l h;simp only[Nd.txt,Nd.size];omega
 | .alt l,h=>by have:=Nd.txta_le l h;simp only[Nd.txt,Nd.size];omega
 | .rep x mn mx,h=>by have:=Nd.txt_le x h.1;have:=timesT_le h.2;simp only[Nd.txt,Nd.size,List.length_append];omega
 | .group _ x,h=>by have:=Nd.txt_le x h;simp only[Nd.txt,Nd.size,List.length_append,List.length_singleton];omega
 | .back n,h=>by have:=Zs4 n.toNat (by have:=h.2;omega);simp only[Nd.txt,Nd.size,List.length_append,List.length_singleton];omega
theorem Nd.txts_le:∀l:List Nd,Nd.shws l→(Nd.txts l).length≤3000*Nd.sizes l
 |[],_=>by simp[Nd.txts]
 |x::r,h=>by have:=Nd.txt_le x h.1;have:=Nd.txts_le r h.2;simp only[Nd.txts,Nd.sizes,List.length_append];omega
theorem Nd.txta_le:∀l:List Nd,Nd.shws l→(Nd.txta l).length≤3000*Nd.sizes l
 |[],_=>by simp[Nd.txta]
 |[x],h=>by have:=Nd.txt_le x h.1;simp only[Nd.txta,Nd.sizes];omega
 |x::y::r,h=>by
  have h1:=Nd.txt_le x h.1;have h2:=Nd.txta_le (y::r) h.2;rw[Nd.txta,List.length_append,List.length_append,Nd.sizes];simp only[List.length_singleton];omega
end
theorem Nd.txts_append:∀l m:List Nd,Nd.txts (l++m)=Nd.txts l++Nd.txts m
 |[],_=>rfl
 |x::r,m=>by simp only[List.cons_append,Nd.txts,Nd.txts_append r m,List.append_assoc]
theorem Nd.txta_snoc:∀(l:List Nd) (x:Nd),Nd.txta (l++[x])=Nd.txta l++((if l=[]then[]else[124])++x.txt)
 |[],x=>rfl
 |[y],x=>rfl
 |y::z::r,x=>by
  have:=Nd.txta_snoc (z::r) x;rw[List.cons_append]at this;rw[List.cons_append,List.cons_append,Nd.txta,this,Nd.txta];simp[List.append_assoc]
theorem Nd.txts_take{l:List Nd}{k:Nat}(h:k<l.length):Nd.txts (l.take (k+1))=Nd.txts (l.take k)++l[k].txt:=by
 rw[List.take_succ_eq_append_getElem h,Nd.txts_append];simp[Nd.txts]
theorem Nd.txta_take{l:List Nd}{k:Nat}(h:k<l.length):Nd.txta (l.take (k+1))=Nd.txta (l.take k)++((if k=0 then[]else[124])++l[k].txt):=by
 rw[List.take_succ_eq_append_getElem h,Nd.txta_snoc]
 congr 3
 rw[eq_iff_iff];constructor
 ·intro e;have:=congrArg List.length e;rw[List.length_take,Nat.min_eq_left (Nat.le_of_lt h)]at this;simpa using this
 ·rintro rfl;rfl
theorem Nd.shws_take{l:List Nd}(h:Nd.shws l):∀k,Nd.shws (l.take k):=by
 induction l with
 |nil=>intro k;simp[Nd.shws]
 |cons a r ih=>intro k;cases k with
  |zero=>trivial
  |succ k=>exact⟨h.1,ih h.2 k⟩
open Go.Lib (hid)
def Zut(W0:World)(n:Nd):Prop:=∀(K:Nat→Prop) (b:Nat) (out:List UInt8) (w:World) (v:Value),RN nob W0 n v→TxW W0 K b out w→out.length+3000*n.size≤10000000000000→
 Calls Tryz.prog 103 #[.pointer (some ⟨b,0,none⟩),v] w (TxA W0 K b (out++n.txt) w (.tuple #[]))
section
variable {W0:World} (hE:Env W0) (hP:P10 W0)
include hE
theorem Zu1(s:S4)(hs:s.fit):Zut W0 (.one s):=by
 intro K b l w v hv h i;rw[RN]at hv;obtain rfl:v=.iface 134 (.agg #[.int .u64 s.a,.int .u64 s.b,.int .u64 s.c,.int .u64 s.d]):=hv;have hd:(Nd.one s).txt=setT s:=rfl;have k:(Nd.one s).size=1:=rfl;rw[hd];rw[k]at i;obtain⟨w1,f⟩:∃w1,w1=w.alloc (.cells #[.int .u64 s.a,.int .u64 s.b,.int .u64 s.c,.int .u64 s.d] 134):=⟨_,rfl⟩;have f1:Fr nob w w1:=by rw[f];exact(Fr.refl _ _).alloc _
 have g:w1.heap[w.heap.size]? =some (.cells #[.int .u64 s.a,.int .u64 s.b,.int .u64 s.c,.int .u64 s.d] 134 (0,0)):=by rw[f];exact newAt _ _
 have r1:=Zl g;have H1:=hid (h.quiet f1);have F1:=hid f1;have j:=hid f;have HE:=hid hE;have HS:=hid hs;clear h f1 f g hE hs;go_enter Tryz.func103,Tryz.ntmps103;go_wp2_with(rw[←j.out]);refine(show_set s HS.out HE.out H1.out (by omega)).mono ?_;rintro e w2 ⟨rfl,h2,f2⟩;have H2:=hid h2;have F2:=hid f2;clear h2 f2;go_wp2
 go_end0
 exact⟨rfl,H2.out,F1.out.toTx.trans F2.out (fun _ _ x=>x)⟩
omit hE in
theorem ZsW(n:Nd)(hn:n=.nil∨n=.empty∨n=.start∨n=.fin):Zut W0 n:=by
 intro K b c w v hv h a;have H:=hid h;have hl:c.length≤10000000000000:=by omega
 clear h a;rcases hn with rfl|rfl|rfl|rfl
 ·rw[RN]at hv;subst hv;go_enter Tryz.func103,Tryz.ntmps103;go_wp2
  go_end0
  exact⟨rfl,by simpa[Nd.txt]using H.out,Fr.refl _ _⟩
 ·rw[RN]at hv;subst hv;go_enter Tryz.func103,Tryz.ntmps103;go_wp2
  go_end0
  exact⟨rfl,by simpa[Nd.txt]using H.out,Fr.refl _ _⟩
 ·rw[RN]at hv;subst hv;have HA:=hid (fun o=>H.out.quiet ((Fr.refl nob w).alloc o));go_enter Tryz.func103,Tryz.ntmps103;go_wp2_with fail;refine(tx_byte 94 94 (by decide) rfl (HA.out _) (by omega)).mono ?_;rintro e w2 ⟨rfl,h2,f2⟩;have H2:=hid h2;have F2:=hid f2;clear h2 f2;go_wp2
  go_end0
  exact⟨rfl,H2.out,(((Fr.refl nob w).alloc _).toTx).trans F2.out (fun _ _ x=>x)⟩
 ·rw[RN]at hv;subst hv;have HA:=hid (fun o=>H.out.quiet ((Fr.refl nob w).alloc o));go_enter Tryz.func103,Tryz.ntmps103;go_wp2_with fail;refine(tx_byte 36 36 (by decide) rfl (HA.out _) (by omega)).mono ?_;rintro e w2 ⟨rfl,h2,f2⟩;have H2:=hid h2;have F2:=hid f2;clear h2 f2;go_wp2
  go_end0
  exact⟨rfl,H2.out,(((Fr.refl nob w).alloc _).toTx).trans F2.out (fun _ _ x=>x)⟩
omit hE in
theorem Zu2(l:List Nd)(hs:Nd.shws l)(ih:∀x∈l,Zut W0 x):Zut W0 (.cat l):=by
 intro K b m w v hv h d;obtain⟨u,rfl,sn⟩:=ZjK.1 hv;obtain⟨a,c,rfl⟩:=sn.shape;have hd:(Nd.cat l).txt=Nd.txts l:=by rw[Nd.txt]
 have C:(Nd.cat l).size=1+Nd.sizes l:=by simp only[Nd.size]
 rw[hd];rw[C]at d;have G:=Nd.length_le l;have E:l.length≤10000000000000:=by omega
 have HA:=hid (fun o=>h.quiet ((Fr.refl nob w).alloc o));have y:=hid sn;have IH:=hid ih;have HS:=hid hs;have n:=hid d;have HF:=hid h.fr;clear h sn ih hs d hv;go_enter Tryz.func103,Tryz.ntmps103;go_wp2_with fail;obtain⟨w1,j⟩:∃w1,w1=w.alloc (.cells #[.slice a l.length c] 136):=⟨_,rfl⟩;have t:=hid j;have H1:=hid (show TxW W0 K b m w1 by rw[j];exact HA.out _);have F1:=hid (show Fr (Txn W0 K) w w1 by rw[j];exact((Fr.refl nob w).alloc _).toTx);clear j HA;go_wp2_with(rw[←t.out])
 go_loopw [30] (fun i wr=>∃k:Nat,i=.int .i64 k∧k≤l.length∧TxW W0 K b (m++Nd.txts (l.take k)) wr∧Fr (Txn W0 K) w wr) (fun i _=>l.length-(intOf i).toNat)
 case atStart=>exact⟨0,rfl,Nat.zero_le _,by simpa[Nd.txts]using H1.out,F1.out⟩
 case round=>
  obtain⟨k,rfl,hk,tx,fr⟩:=hrel;have HR:=hid tx;have FR:=hid fr;clear tx fr;by_cases f:k<l.length
  ·obtain⟨g,off,D,x,he,hx,hc⟩:=y.out.get f;injection he with e1 e2 e3;subst e1;subst e3;have F:=HR.out.fr.cell hc (fun x=>x);have q:=Nd.txts_take f;have z:=Nd.txts_le _ (Nd.shws_take HS.out k);have B:=Nd.sizes_take f;have A:=Nd.sizes_take_le l (k+1);have HX:=hid hx;have s:=hid q;have p:=IH.out l[k] (List.getElem_mem f) K b (m++Nd.txts (l.take k)) wr x hx HR.out (by rw[List.length_append];have:=n.out;omega);have r:=hid p;clear e2 hc hx q p z B A;go_wp2_with fail;refine r.out.mono ?_;rintro e w2 ⟨rfl,h2,f2⟩;rw[List.append_assoc,←s.out]at h2;have H2:=hid h2;have F2:=hid (FR.out.trans f2 (fun _ _ x=>x));clear h2 f2;go_wp2;go_roundw
   case rel=>exact⟨k+1,by go_num,by omega,H2.out,F2.out⟩
   case measure=>simp[intOf];omega
  ·obtain rfl:k=l.length:=by omega
   have hT:=List.take_of_length_le (l:=l) (Nat.le_refl _);rw[hT]at HR;go_wp2
   go_end0
   exact⟨rfl,HR.out,FR.out⟩
omit hE in
theorem Zu3(l:List Nd)(hs:Nd.shws l)(ih:∀x∈l,Zut W0 x):Zut W0 (.alt l):=by
 intro K b n w v hv h f;obtain⟨u,rfl,sn⟩:=ZjL.1 hv;obtain⟨a,c,rfl⟩:=sn.shape;have hd:(Nd.alt l).txt=Nd.txta l:=by rw[Nd.txt]
 have E:(Nd.alt l).size=1+Nd.sizes l:=by simp only[Nd.size]
 rw[hd];rw[E]at f;have I:=Nd.length_le l;have G:l.length≤10000000000000:=by omega
 have HA:=hid (fun o=>h.quiet ((Fr.refl nob w).alloc o));have A:=hid sn;have IH:=hid ih;have HS:=hid hs;have p:=hid f;have HF:=hid h.fr;clear h sn ih hs f hv;go_enter Tryz.func103,Tryz.ntmps103;go_wp2_with fail;obtain⟨w1,m⟩:∃w1,w1=w.alloc (.cells #[.slice a l.length c] 137):=⟨_,rfl⟩;have z:=hid m;have H1:=hid (show TxW W0 K b n w1 by rw[m];exact HA.out _);have F1:=hid (show Fr (Txn W0 K) w w1 by rw[m];exact((Fr.refl nob w).alloc _).toTx);clear m HA;go_wp2_with(rw[←z.out])
 go_loopw [44] (fun i wr=>∃k:Nat,i=.int .i64 k∧k≤l.length∧TxW W0 K b (n++Nd.txta (l.take k)) wr∧Fr (Txn W0 K) w wr) (fun i _=>l.length-(intOf i).toNat)
 case atStart=>exact⟨0,rfl,Nat.zero_le _,by simpa[Nd.txta]using H1.out,F1.out⟩
 case round=>
  obtain⟨k,rfl,hk,tx,fr⟩:=hrel;have HR:=hid tx;have FR:=hid fr;clear tx fr;by_cases j:k<l.length
  ·obtain⟨g,off,F,x,he,hx,hc⟩:=A.out.get j;injection he with e1 e2 e3;subst e1;subst e3;have H:=HR.out.fr.cell hc (fun x=>x);have d:=Nd.txta_take j;have t:=Nd.txta_le _ (Nd.shws_take HS.out k);have D:=Nd.sizes_take j;have C:=Nd.sizes_take_le l (k+1);have J:=l[k].size_pos;have HX:=hid hx;have y:=fun o w' (h:TxW W0 K b o w') (hl:o.length≤n.length+(Nd.txta (l.take k)).length+1)=>IH.out l[k] (List.getElem_mem j) K b o w' x hx h (by have:=p.out;omega);have s:=hid y;clear e2 hc hx y D C;by_cases h0:k=0
   ·have q:¬(0:Int)<(k:Int):=by omega
    rw[if_pos h0,List.nil_append]at d;have r:=hid d;clear d h0 t;go_wp2_with fail;refine(s.out _ _ HR.out (by rw[List.length_append];omega)).mono ?_;rintro e w2 ⟨rfl,h2,f2⟩;rw[List.append_assoc,←r.out]at h2;have H2:=hid h2;have F2:=hid (FR.out.trans f2 (fun _ _ x=>x));clear h2 f2;go_wp2;go_roundw
    case rel=>exact⟨k+1,by go_num,by omega,H2.out,F2.out⟩
    case measure=>simp[intOf];omega
   ·have q:(0:Int)<(k:Int):=by omega
    rw[if_neg h0]at d;have r:=hid d;have B:(n++Nd.txta (l.take k)).length≤140737488355327:=by rw[List.length_append];have:=p.out;have h1:=Nd.sizes_take_le l k;omega
    clear d h0 t;go_wp2_with fail;refine(tx_byte 124 124 (by decide) rfl HR.out B).mono ?_;rintro e w2 ⟨rfl,h2,f2⟩;have H2:=hid h2;have F2:=hid (FR.out.trans f2 (fun _ _ x=>x));clear h2 f2;go_wp2_with fail;refine(s.out _ _ H2.out (by rw[List.length_append,List.length_append];simp)).mono ?_;rintro e w3 ⟨rfl,h3,f3⟩;rw[List.append_assoc,List.append_assoc,←r.out]at h3;have H3:=hid h3;have F3:=hid (F2.out.trans f3 (fun _ _ x=>x));clear h3 f3;go_wp2;go_roundw
    case rel=>exact⟨k+1,by go_num,by omega,H3.out,F3.out⟩
    case measure=>simp[intOf];omega
  ·obtain rfl:k=l.length:=by omega
   have hT:=List.take_of_length_le (l:=l) (Nat.le_refl _);rw[hT]at HR;go_wp2
   go_end0
   exact⟨rfl,HR.out,FR.out⟩
end
section
variable {W0:World}
theorem Zu4(t:Nd)(mn mx:Int)(hP:P10 W0)(hr:repOk true mn mx=true)(hs:t.shw)(ih:Zut W0 t):Zut W0 (.rep t mn mx):=by
 intro K b c w v hv h d;rw[RN]at hv;obtain⟨u,rfl,hu⟩:=hv;have hd:(Nd.rep t mn mx).txt=t.txt++ZsR mn mx:=by rw[Nd.txt]
 have q:(Nd.rep t mn mx).size=1+t.size:=by simp only[Nd.size]
 rw[hd];rw[q]at d;have y:=t.txt_le hs;have s:c.length≤10000000000000:=by omega
 have r:c.length+t.txt.length≤9999999999000:=by omega
 obtain⟨w1,a⟩:∃w1,w1=w.alloc (.cells #[u,.int .i64 mn,.int .i64 mx] 139):=⟨_,rfl⟩;have f:w1.heap[w.heap.size]? =some (.cells #[u,.int .i64 mn,.int .i64 mx] 139 (0,0)):=by rw[a];exact newAt _ _
 have c0:=cell_at (j:=0) (v:=u) f rfl;have H1:=hid (show TxW W0 (fun k=>K k∨k=w.heap.size) b c w1 by rw[a];exact h.alloc _ h.lt);have F1:=hid (show Fr (Txn W0 K) w w1 by rw[a];exact((Fr.refl nob w).alloc _).toTx);have o:=hid a;have p:=hid f;have l:=ih (fun k=>K k∨k=w.heap.size) b c w1 u hu H1.out (by omega);have m:=hid l;have HP:=hid hP;have n:=hid hr;rcases hu.shape with rfl|⟨i,x,rfl⟩
 all_goals
  clear h l d a f hP hr hu ih;go_enter Tryz.func103,Tryz.ntmps103;go_wp2_with(rw[←o.out]);refine m.out.mono ?_;rintro e w2 ⟨rfl,h2,f2⟩;have g:=f2.heap p.out (fun x=>x (.inr (.inr rfl)));have k1:=cell_at (j:=1) (v:=.int .i64 mn) g rfl;have k2:=cell_at (j:=2) (v:=.int .i64 mx) g rfl;have H2:=hid h2;have F2:=hid (F1.out.trans f2 (fun _ _ x=>Txn.less (fun _=>.inl) x));clear h2 f2 g;go_wp2_with fail;refine(show_times mn mx H2.out (by rw[List.length_append];omega) HP.out n.out).mono ?_;rintro e w3 ⟨rfl,h3,f3⟩;have H3:=hid h3;have F3:=hid (F2.out.trans f3 (fun _ _ x=>Txn.less (fun _=>.inl) x));clear h3 f3;go_wp2
  go_end0
  refine⟨rfl,?_,F3.out⟩;have:=H3.out.less (K':=K) (fun _=>.inl);rw[List.append_assoc]at this;exact this
theorem Zuk(n:Int)(t:Nd)(hs:t.shw)(ih:Zut W0 t):Zut W0 (.group n t):=by
 intro K b c w v hv h d;rw[RN]at hv;obtain⟨u,rfl,hu⟩:=hv;have hd:(Nd.group n t).txt=[40]++(t.txt++[41]):=by rw[Nd.txt]
 have q:(Nd.group n t).size=1+t.size:=by simp only[Nd.size]
 rw[hd];rw[q]at d;have y:=t.txt_le hs;have s:c.length≤10000000000000:=by omega
 have r:c.length+t.txt.length≤9999999999000:=by omega
 obtain⟨w1,a⟩:∃w1,w1=w.alloc (.cells #[.int .i64 n,u] 141):=⟨_,rfl⟩;have g:w1.heap[w.heap.size]? =some (.cells #[.int .i64 n,u] 141 (0,0)):=by rw[a];exact newAt _ _
 have H1:=hid (show TxW W0 (fun k=>K k∨k=w.heap.size) b c w1 by rw[a];exact h.alloc _ h.lt);have F1:=hid (show Fr (Txn W0 K) w w1 by rw[a];exact((Fr.refl nob w).alloc _).toTx);have o:=hid a;have p:=hid g;have f:=fun w' (h':TxW W0 (fun k=>K k∨k=w.heap.size) b (c++[40]) w')=>ih (fun k=>K k∨k=w.heap.size) b (c++[40]) w' u hu h' (by rw[List.length_append];simp;omega);have m:=hid f;rcases hu.shape with rfl|⟨i,x,rfl⟩
 all_goals
  clear h f d a g hu ih;go_enter Tryz.func103,Tryz.ntmps103;go_wp2_with(rw[←o.out]);refine(tx_byte 40 40 (by decide) rfl H1.out (by omega)).mono ?_;rintro e w2 ⟨rfl,h2,f2⟩;have l:=f2.heap p.out (fun x=>x (.inr (.inr rfl)));have k1:=cell_at (j:=1) l rfl;have H2:=hid h2;have F2:=hid (F1.out.trans f2 (fun _ _ x=>Txn.less (fun _=>.inl) x));clear h2 f2 l;go_wp2_with fail;refine(m.out w2 H2.out).mono ?_;rintro e w3 ⟨rfl,h3,f3⟩;have H3:=hid h3;have F3:=hid (F2.out.trans f3 (fun _ _ x=>Txn.less (fun _=>.inl) x));clear h3 f3;go_wp2_with fail;refine(tx_byte 41 41 (by decide) rfl H3.out (by simp;omega)).mono ?_;rintro e w4 ⟨rfl,h4,f4⟩;have H4:=hid h4;have F4:=hid (F3.out.trans f4 (fun _ _ x=>Txn.less (fun _=>.inl) x));clear h4 f4;go_wp2
  go_end0
  refine⟨rfl,?_,F4.out⟩;have:=H4.out.less (K':=K) (fun _=>.inl);rw[List.append_assoc,List.append_assoc]at this;exact this
theorem ZuC(n:Int)(hP:P10 W0)(h0:0≤n)(h1:n≤100000):Zut W0 (.back n):=by
 intro K b g w v hv h c;rw[RN]at hv;subst hv;obtain⟨m,rfl⟩:∃m:Nat,(m:Int)=n:=⟨n.toNat,by omega⟩;have hd:(Nd.back (m:Int)).txt=[92]++Lib.decDigits m:=by rw[Nd.txt];rfl
 rw[hd];have p:g.length≤10000000000000:=by omega
 have l:=Zs4 m (by omega);obtain⟨D,hD⟩:∃D,Lib.decDigits m=D:=⟨_,rfl⟩;have HI:=hid (fun w' (f:Fr nob W0 w')=>Ztz m w' (by omega) (hP.on f));rw[hD]at HI l⊢;obtain⟨X,hX⟩:∃X,[92]++D=X:=⟨_,rfl⟩;have o:X.length≤7:=by rw[←hX];simp;omega
 have ar:∀w',(Op.stringOp .add ⟨#[92]⟩ ⟨D.toArray⟩).run Tryz.prog w'=.ok (.string ⟨X.toArray⟩) w':=fun w'=>by rw[←hX];exact run_string_add_lists w' [92] D (by decide) (by omega)
 rw[hX];obtain⟨w1,a⟩:∃w1,w1=w.alloc (.cells #[.int .i64 (m:Int)] 143):=⟨_,rfl⟩;have d:w1.heap[w.heap.size]? =some (.cells #[.int .i64 (m:Int)] 143 (0,0)):=by rw[a];exact newAt _ _
 have kv:=Zud (cell_at (j:=0) (v:=.int .i64 (m:Int)) d rfl);have H1:=hid (show TxW W0 K b g w1 by rw[a];exact h.quiet ((Fr.refl nob w).alloc _));have F1:=hid (show Fr nob w w1 by rw[a];exact(Fr.refl nob w).alloc _);have k:=hid a;clear h c a d hD hX hP;go_enter Tryz.func103,Tryz.ntmps103;go_wp2_with(rw[←k.out]);refine region_fr 7 (by kernel_rfl) (by kernel_rfl) ?_;simp only[List.take_succ_cons,List.take_zero,List.drop_succ_cons,List.drop_zero]
 repeat(quiet_step ((with_reducible exact calls_fr (HI.out _ (Fr.trans' H1.out.fr (grown_fr _ _ _))))))
 refine wpQuiet_nil ?_;intro w4 f4;have H4:=hid (H1.out.quiet f4);have F4:=hid (Fr.toTx (W0:=W0) (K:=K) (F1.out.trans' f4));clear f4;go_wp2_with fail;refine(tx_str X H4.out (by omega)).mono ?_;rintro e w5 ⟨rfl,h5,f5⟩;have H5:=hid h5;have F5:=hid (F4.out.trans f5 (fun i _ x=>x));clear h5 f5;go_wp2
 go_end0
 exact⟨rfl,H5.out,F5.out⟩
end
theorem Zu5{W0:World}(hE:Env W0)(hP:P10 W0)(m:Nat):∀n:Nd,n.size≤m→n.shw→Zut W0 n:=by
 induction m with
 |zero=>intro n h;have:=n.size_pos;omega
 |succ m ih=>
  intro n hm hs
  match n,hm,hs with
  | .nil,_,_=>exact ZsW _ (.inl rfl)
  | .empty,_,_=>exact ZsW _ (.inr (.inl rfl))
  | .start,_,_=>exact ZsW _ (.inr (.inr (.inl rfl)))
  | .fin,_,_=>exact ZsW _ (.inr (.inr (.inr rfl)))
  | .one s,_,hs=>exact Zu1 hE s hs
  | .cat l,hm,hs=>exact Zu2 l hs (fun x hx=>ih x (by have:=Nd.kid_lt (n:=.cat l) (t:=x) hx;omega) (Nd.shws_mem hs x hx))
  | .alt l,hm,hs=>exact Zu3 l hs (fun x hx=>ih x (by have:=Nd.kid_lt (n:=.alt l) (t:=x) hx;omega) (Nd.shws_mem hs x hx))
  | .rep t mn mx,hm,hs=>exact Zu4 t mn mx hP hs.2 hs.1 (ih t (by simp only[Nd.size]at hm;omega) hs.1)
  | .group n t,hm,hs=>exact Zuk n t hs (ih t (by simp only[Nd.size]at hm;omega) hs)
  | .back n,_,hs=>exact ZuC n hP hs.1 hs.2
mutual
def Nd.fits:Nd→Prop
 | .one s=>s.fit
 | .cat l| .alt l=>Nd.fitss l
 | .rep x _ _| .group _ x=>x.fits
 |_=>True
def Nd.fitss:List Nd→Prop
 |[]=>True
 |x::r=>x.fits∧Nd.fitss r
end
theorem Zul{a:Bool}{mn mx:Int}(h:repOk a mn mx=true):repOk true mn mx=true:=by
 cases a with
 |true=>exact h
 |false=>cases h
mutual
theorem Nd.look_shw:∀(n:Nd) (o:Int) (c:List Int) (o':Int) (c':List Int),n.look o c=some (o',c')→0≤o→(∀k∈c,1≤k∧k≤o)→o+n.size≤100000→n.fits→n.shw∧o≤o'∧o'≤o+n.size∧∀k∈c',1≤k∧k≤o'
 | .nil,o,c,o',c',h,h0,hc,hz,hf| .empty,o,c,o',c',h,h0,hc,hz,hf| .start,o,c,o',c',h,h0,hc,hz,hf| .fin,o,c,o',c',h,h0,hc,hz,hf=>by
   rw[Nd.look]at h;injection h with h;injection h with h1 h2;subst h1;subst h2;exact⟨trivial,Int.le_refl _,by omega,hc⟩
 | .one s,o,c,o',c',h,h0,hc,hz,hf=>by
   rw[Nd.look]at h;injection h with h;injection h with h1 h2;subst h1;subst h2;exact⟨hf,Int.le_refl _,by omega,hc⟩
 | .cat l,o,c,o',c',h,h0,hc,hz,hf=>by
   rw[Nd.look]at h;split at h
   ·simp only[Nd.size]at hz⊢;obtain⟨a1,a2,a3,a4⟩:=Nd.looks_shw l o c o' c' h h0 hc (by omega) hf;exact⟨a1,a2,by omega,a4⟩
   ·cases h
 | .alt l,o,c,o',c',h,h0,hc,hz,hf=>by
   rw[Nd.look]at h;split at h
   ·simp only[Nd.size]at hz⊢;obtain⟨a1,a2,a3,a4⟩:=Nd.looks_shw l o c o' c' h h0 hc (by omega) hf;exact⟨a1,a2,by omega,a4⟩
   ·cases h
 | .rep x mn mx,o,c,o',c',h,h0,hc,hz,hf=>by
   rw[Nd.look]at h;split at h
   ·next hr=>
    simp only[Nd.size]at hz⊢;obtain⟨a1,a2,a3,a4⟩:=Nd.look_shw x o c o' c' h h0 hc (by omega) hf;exact⟨⟨a1,Zul hr⟩,a2,by omega,a4⟩
   ·cases h
 | .group n x,o,c,o',c',h,h0,hc,hz,hf=>by
   rw[Nd.look]at h;split at h
   ·next hn=>
    have hn:n=o+1:=by simpa using hn
    simp only[Nd.size]at hz⊢;cases e:x.look (o+1) c with
    |none=>rw[e]at h;cases h
    |some q=>
     obtain⟨o1,c1⟩:=q;rw[e]at h;simp only at h;injection h with h;injection h with h1 h2;subst h1;subst h2;obtain⟨a1,a2,a3,a4⟩:=Nd.look_shw x (o+1) c o1 c1 e (by omega) (fun k hk=>by have:=hc k hk;omega) (by omega) hf;refine⟨a1,by omega,by omega,fun k hk=> ?_⟩;rcases List.mem_append.1 hk with hk|hk
     ·exact a4 k hk
     ·simp at hk;omega
   ·cases h
 | .back n,o,c,o',c',h,h0,hc,hz,hf=>by
   rw[Nd.look]at h;split at h
   ·next hn=>
    injection h with h;injection h with h1 h2;subst h1;subst h2;have:=hc n (by simpa using hn);exact⟨⟨by omega,by simp only[Nd.size]at hz;omega⟩,Int.le_refl _,by omega,hc⟩
   ·cases h
theorem Nd.looks_shw:∀(l:List Nd) (o:Int) (c:List Int) (o':Int) (c':List Int),Nd.looks l o c=some (o',c')→0≤o→(∀k∈c,1≤k∧k≤o)→o+Nd.sizes l≤100000→Nd.fitss l→Nd.shws l∧o≤o'∧o'≤o+Nd.sizes l∧∀k∈c',1≤k∧k≤o'
 |[],o,c,o',c',h,h0,hc,hz,hf=>by
  rw[Nd.looks]at h;injection h with h;injection h with h1 h2;subst h1;subst h2;exact⟨trivial,Int.le_refl _,by simp only[Nd.sizes];omega,hc⟩
 |x::r,o,c,o',c',h,h0,hc,hz,hf=>by
  rw[Nd.looks]at h;simp only[Nd.sizes]at hz⊢;cases e:x.look o c with
  |none=>rw[e]at h;cases h
  |some q=>
   obtain⟨o1,c1⟩:=q;rw[e]at h;simp only at h;obtain⟨a1,a2,a3,a4⟩:=Nd.look_shw x o c o1 c1 e h0 hc (by omega) hf.1;obtain⟨b1,b2,b3,b4⟩:=Nd.looks_shw r o1 c1 o' c' h (by omega) a4 (by omega) hf.2;exact⟨⟨a1,b1⟩,by omega,by omega,b4⟩
end
theorem Nd.right_shw{n:Nd}(h:n.right=true)(hz:n.size≤100000)(hf:n.fits):n.shw:=by
 unfold Nd.right at h;obtain⟨⟨o,c⟩,e⟩:=Option.isSome_iff_exists.1 h;exact(Nd.look_shw n 0 [] o c e (by omega) (fun k hk=>by cases hk) (by omega) hf).1
theorem Zu6(n:Nd)(v:Value)(w:World)(hE:Env w)(hP:P10 w)(hn:n.size≤3000000)(hv:RN nob w n v)(hs:n.right=true→n.shw):
 Calls Tryz.prog 71 #[v] w fun e w'=>e=.returned (.string ⟨(if n.right then n.txt else[]).toArray⟩)∧Fr nob w w':=by
 have hr:=ZuZ n v w hn hv;have a:=hid hr;have HE:=hid hE;have HP:=hid hP;have HV:=hid hv;clear hr hE hP;rcases hv.shape with rfl|⟨i,x,rfl⟩
 all_goals
  clear hv;cases hb:n.right with
  |false=>
   rw[hb]at a;rw[if_neg (by decide)];clear hb hs;go_enter Tryz.func71,Tryz.ntmps71;go_wp2_with fail;refine a.out.mono ?_;rintro e w1 ⟨rfl,f1⟩;have F1:=hid f1;clear f1;go_wp2;go_ret;exact⟨rfl,F1.out⟩
  |true=>
   have hs:=hs hb;rw[hb]at a;rw[if_pos rfl];have HS:=hid hs;clear hb hs;go_enter Tryz.func71,Tryz.ntmps71;go_wp2_with fail;refine a.out.mono ?_;rintro e w1 ⟨rfl,f1⟩;obtain⟨w2,b⟩:∃w2,w2=w1.alloc (.cells #[.pointer none,.slice none 0 0] 177):=⟨_,rfl⟩;have f2:Fr nob w1 w2:=by rw[b];exact(Fr.refl _ _).alloc _
   have hB:TxB w1.heap.size [] none w2:=by rw[b];exact TxB.new w1
   have hT:TxW w (fun _=>False) w1.heap.size [] w2:=⟨f1.trans' f2,none,hB,fun k x=>by rcases x with x|x;exact⟨by have:=f1.size;omega,by simp,Nat.lt_of_lt_of_le x (f1.trans' f2).size⟩;exact x.elim⟩;have HN:=hid (Zu5 HE.out HP.out n.size n (Nat.le_refl _) HS.out (fun _=>False) w1.heap.size [] w2 _ HV.out hT (by simp;omega));have c:=hid b;clear hT hB f1 f2 b;go_wp2_with(rw[←c.out]);refine HN.out.mono ?_;rintro e w3 ⟨rfl,h3,f3⟩;rw[List.nil_append]at h3;have H3:=hid h3;clear h3 f3;obtain⟨g,⟨cs,hb,d⟩,hk⟩:=H3.out.tx;have f:=hid (Zev _ w1.heap.size 0 cs n.txt g w3 hb);have HG:=hid (show∀i,i<w.heap.size→some i≠g from fun i hi=>(hk i (.inl hi)).2.1);clear hb d hk;go_wp2_with fail;refine f.out.mono ?_;rintro e w4 ⟨rfl,f4⟩;have F4:=hid (H3.out.fr.trans f4 (fun i hi x=>(HG.out i hi x).elim));clear f4;go_wp2;go_ret;exact⟨rfl,F4.out⟩
theorem Zs7{ps:List Nd}(h:Zeq ps):Za2 ps=Zd3 ps (.cat ps):=by unfold Za2;rw[Zhk h]
section
variable {P o:Nat} {c0:List Nat} {m0:List (Nat×List UInt8)} (s:RxS)
end
section
variable {p l q:List UInt8}
end
def ci(c:List Nat):List Int:=c.map Int.ofNat
theorem ZvW(c:List Nat)(n:Nat):ci (c++[n])=ci c++[(n:Int)]:=by simp[ci]
theorem ZvX(c:List Nat)(n:Nat):(ci c).contains (n:Int)=c.contains n:=by
 induction c with
 |nil=>rfl
 |cons a r ih=>
  rw[show ci (a::r)=(a:Int)::ci r from rfl,List.contains_cons,List.contains_cons,ih];have e:((n:Int)==(a:Int))=(n==a):=by
   rw[Bool.eq_iff_iff];simp only[beq_iff_eq];omega
  rw[e]
def Lks(s:RxS)(t:Nd)(s':RxS):Prop:=t.look s.opened (ci s.closed)=some ((s'.opened:Int),ci s'.closed)
def Zum(s:RxS)(ps:List Nd)(s':RxS):Prop:=Nd.looks ps s.opened (ci s.closed)=some ((s'.opened:Int),ci s'.closed)
theorem Zun{ps:List Nd}{t:Nd}{o:Int}{c:List Int}{o':Int}{c':List Int}(h:Nd.looks ps o c=some (o',c')):Nd.looks (ps++[t]) o c=t.look o' c':=by
 induction ps generalizing o c with
 |nil=>rw[Nd.looks]at h;injection h with h;injection h with h1 h2;subst h1;subst h2;exact looks_one t _ _
 |cons a r ih=>
  rw[List.cons_append,Nd.looks];rw[Nd.looks]at h;cases ha:a.look o c with
  |none=>rw[ha]at h;cases h
  |some p=>obtain⟨o1,c1⟩:=p;rw[ha]at h;exact ih h
theorem Zum.snoc{s s1 s2:RxS}{ps:List Nd}{t:Nd}(h:Zum s ps s1)(ht:Lks s1 t s2):Zum s (ps++[t]) s2:=by unfold Zum;rw[Zun h];exact ht
theorem unit_plain{t:Nd}(h:t.unit=true):t.plain=true:=by cases t<;>first|rfl|cases h
theorem brn_alt{t:Nd}(h:t.brn):t.isAlt=false:=by cases t<;>first|rfl|cases h
theorem joined_look{s s':RxS}{ps:List Nd}(hu:Zeq ps)(h:Zum s ps s'):Lks s (Za2 ps) s':=by
 rw[Zs7 hu]
 match ps,hu,h with
 |[],_,h=>exact h
 |[x],_,h=>unfold Zum at h;rw[looks_one]at h;exact h
 |x::y::r,hu,h=>
  show Nd.look (.cat (x::y::r)) _ _=_;have e:(x::y::r).any (fun n=> !n.plain)=false:=by
   rw[List.any_eq_false];intro z hz;rw[unit_plain (hu z hz)];decide
  rw[Nd.look,e,if_pos (by simp)];exact h
theorem chosen_look{s s':RxS}{ts:List Nd}(hu:Zn3 ts)(h:Zum s ts s'):Lks s (Za3 ts) s':=by
 rw[Zhl hu]
 match ts,hu,h with
 |[],_,h=>exact h
 |[x],_,h=>unfold Zum at h;rw[looks_one]at h;exact h
 |x::y::r,hu,h=>
  show Nd.look (.alt (x::y::r)) _ _=_;have e:(x::y::r).any Nd.isAlt=false:=by
   rw[List.any_eq_false];intro z hz;rw[brn_alt (hu z hz)];decide
  rw[Nd.look,e,if_pos (by simp)];exact h
theorem ZtH{t:Nd}(h:t.atom=true):t.unit=true:=by cases t<;>first|rfl|cases h
theorem Zte{s0 s s':RxS}{t:Nd}{a b:Int}(ht:t.atom=true)(h:Lks s0 t s)(hr:repOk true a b=true)(e1:s'.opened=s.opened)(e2:s'.closed=s.closed):Lks s0 (.rep t a b) s':=by
 unfold Lks at h⊢;rw[Nd.look,ht,if_pos hr,h,e1,e2]
theorem Zt1(l:List UInt8)(k:Nat):(Zp9 l k).1≤255:=by
 unfold Zp9;split
 ·exact Nat.zero_le _
 ·omega
theorem ZuD{l:List UInt8}{ere:Bool}{k:Nat}{m x:Int}{j:Nat}(h:ZlJ l ere k=some (m,x,j)):repOk true m x=true:=by
 have d1:=Zt1 l k;have d2:=Zt1 l (k+(Zp9 l k).2+1);unfold ZlJ at h;simp only at h;split at h
 ·cases h
 ·split at h
  ·split at h
   all_goals
    split at h
    ·cases h
    ·next ha=>
     injection h with h;injection h with h1 h;injection h with h2 h3;subst h1;subst h2;simp only[not_or,not_and]at ha;unfold repOk;simp only[Bool.true_and,Bool.and_eq_true,decide_eq_true_eq,Bool.or_eq_true,beq_iff_eq];refine⟨by omega,by omega,?_⟩
     first|exact .inl rfl|exact .inl trivial|trivial|exact .inr ⟨Int.not_lt.1 (ha.2 (Int.natCast_nonneg _)),by omega⟩
  ·split at h
   ·cases h
   ·injection h with h;injection h with h1 h;injection h with h2 h3;subst h1;subst h2;unfold repOk;simp only[Bool.true_and,Bool.and_eq_true,decide_eq_true_eq,Bool.or_eq_true,beq_iff_eq];exact⟨by omega,by omega,.inr ⟨by omega,by omega⟩⟩
theorem ZsS{ere:Bool}{l:List UInt8}{s0:RxS}:∀(n:Nat) (s:RxS) (t t':Nd) (s':RxS),t.atom=true→Lks s0 t s→Ze8 prg ere l n s t=.inr (t',s')→Lks s0 t' s'∧t'.atom=true
 |0,s,t,t',s',ht,hk,h=>by
  rw[Ze8]at h;injection h with h;injection h with h1 h2;subst h1;subst h2;exact⟨hk,ht⟩
 |n+1,s,t,t',s',ht,hk,h=>by
  have hgo:∀u b,((if ere then s else s.mark u).go (opB ere b).length).opened=s.opened∧((if ere then s else s.mark u).go (opB ere b).length).closed=s.closed:=fun u b=>by cases ere<;>exact⟨rfl,rfl⟩
  rw[Ze8]at h;split at h
  ·exact ZsS n _ _ _ _ rfl (show Lks s0 (.rep t 0 (-1)) (s.go 1)from Zte ht hk (by decide) rfl rfl) h
  ·split at h
   ·exact ZsS n _ _ _ _ rfl (show Lks s0 (.rep t 1 (-1)) ((if ere then s else s.mark [92,43]).go (opB ere 43).length)from Zte ht hk (by decide) (hgo _ _).1 (hgo _ _).2) h
   ·split at h
    ·exact ZsS n _ _ _ _ rfl (show Lks s0 (.rep t 0 1) ((if ere then s else s.mark [92,63]).go (opB ere 63).length)from Zte ht hk (by decide) (hgo _ _).1 (hgo _ _).2) h
    ·split at h
     ·cases hi:ZlJ l ere (s.at_+(opB ere 123).length)with
      |none=>rw[hi]at h;cases h
      |some y=>
       obtain⟨m,x,j⟩:=y;rw[hi]at h;exact ZsS n _ _ _ _ rfl (show Lks s0 (.rep t m x) (s.to j)from Zte ht hk (ZuD hi) rfl rfl) h
     ·injection h with h;injection h with h1 h2;subst h1;subst h2;exact⟨hk,ht⟩
def Zvx(f:RxS→Out Nd):Prop:=∀s t s',f s=.inr (t,s')→Lks s t s'
section
variable {ere:Bool} {l:List UInt8} {C:Option (RxS→Out Nd)} (hC:∀f,C=some f→Zvx f)
include hC
theorem Zuo{s s':RxS}{t:Nd}(h:ZcS prg ere l C s=.inr (t,s')):Lks s t s'∧t.atom=true:=by
 unfold ZcS at h;split at h
 ·unfold Zct at h;cases C with
  |none=>cases h
  |some f=>
   simp only at h;cases hf:f {s.go (opB ere 40).length with opened:=s.opened+1}with
   |inl e=>rw[hf]at h;cases h
   |inr z=>
    obtain⟨t1,s1⟩:=z;rw[hf]at h;simp only at h;have hk:=hC f rfl _ _ _ hf;split at h
    ·injection h with h;injection h with h1 h2;subst h1;subst h2;refine⟨?_,rfl⟩;unfold Lks at hk⊢;show Nd.look (.group ((s.opened+1:Nat):Int) t1) _ _=_;rw[Nd.look,if_pos (by simp)];have hk:t1.look ((s.opened+1:Nat):Int) (ci s.closed)=some ((s1.opened:Int),ci s1.closed):=hk;rw[show((s.opened+1:Nat):Int)=(s.opened:Int)+1 from by omega]at hk;rw[hk];show some (_,ci s1.closed++[_])=some (_,ci (s1.closed++[s.opened+1]));rw[ZvW];rfl
    ·cases h
 ·split at h
  ·cases h
  ·split at h
   ·cases hp:prs l (s.at_+1)with
    |inl z=>rw[hp]at h;cases h
    |inr y=>
     rw[hp]at h;injection h with h;injection h with h2 h3;subst h2;subst h3;exact⟨rfl,rfl⟩
   ·split at h
    ·injection h with h;injection h with h2 h3;subst h2;subst h3;exact⟨rfl,rfl⟩
    ·split at h
     ·cases h
     ·split at h
      ·cases h
      ·injection h with h;injection h with h2 h3;subst h2;subst h3;exact⟨rfl,rfl⟩
      ·next b r e=>
       unfold escD at h;split at h
       ·split at h
        ·next hc=>
         injection h with h;injection h with h2 h3;subst h2;subst h3;refine⟨?_,rfl⟩;show Nd.look (.back _) _ _=_;rw[Nd.look,ZvX,if_pos hc];cases ere<;>rfl
        ·cases h
       ·split at h
        ·cases h
        ·next c m _=>
         injection h with h;injection h with h2 h3;subst h2;subst h3;refine⟨?_,rfl⟩;show some _=some _;cases m<;>rfl
theorem Ztf{inner:Bool}{s0:RxS}:∀(n:Nat) (first front:Bool) (s:RxS) (ps:List Nd) (t:Nd) (s':RxS),Zeq ps→Zum s0 ps s→brD prg ere l C inner n first front s ps=.inr (t,s')→Lks s0 t s'∧t.brn
 |0,first,front,s,ps,t,s',hu,hk,h=>by
  rw[brD]at h;injection h with h;injection h with h1 h2;subst h1;subst h2;exact⟨joined_look hu hk,joined_brn hu⟩
 |n+1,first,front,s,ps,t,s',hu,hk,h=>by
  rw[brD]at h;split at h
  ·injection h with h;injection h with h1 h2;subst h1;subst h2;exact⟨joined_look hu hk,joined_brn hu⟩
  ·split at h
   ·exact Ztf n _ _ _ _ _ _ (hu.snoc rfl) (show Zum s0 (ps++[.start]) (s.go 1)from hk.snoc (t:=.start) rfl) h
   ·split at h
    ·exact Ztf n _ _ _ _ _ _ (hu.snoc rfl) (show Zum s0 (ps++[.fin]) (s.go 1)from hk.snoc (t:=.fin) rfl) h
    ·split at h
     ·cases h
     ·split at h
      ·cases h
      ·next t1 s1 e1=>
       split at h
       ·cases h
       ·next t2 s2 e2=>
        obtain⟨a1,a2⟩:=Zuo hC e1;obtain⟨b1,b2⟩:=ZsS _ _ _ _ _ a2 a1 e2;exact Ztf n _ _ _ _ _ _ (hu.snoc (ZtH b2)) (hk.snoc b1) h
theorem Zs8{inner:Bool}{s s':RxS}{t:Nd}(h:Zb7 prg ere l C inner s=.inr (t,s')):Lks s t s'∧t.brn:=
 Ztf hC _ _ _ _ _ _ _ (fun x hx=>by cases hx) (by unfold Zum;rw[Nd.looks]) h
theorem Ztr{inner:Bool}{s0:RxS}:∀(n:Nat) (s:RxS) (ts:List Nd) (t:Nd) (s':RxS),Zn3 ts→Zum s0 ts s→Zar prg ere l C inner n s ts=.inr (t,s')→Lks s0 t s'
 |0,s,ts,t,s',hu,hk,h=>by
  rw[Zar]at h;injection h with h;injection h with h1 h2;subst h1;subst h2;exact chosen_look hu hk
 |n+1,s,ts,t,s',hu,hk,h=>by
  rw[Zar]at h;split at h
  ·split at h
   ·cases h
   ·next t1 s1 e1=>
    obtain⟨a1,a2⟩:=Zs8 hC e1;have a1:Lks s t1 s1:=by
     unfold Lks at a1⊢;cases ere<;>exact a1
    exact Ztr n _ _ _ _ (hu.snoc a2) (hk.snoc a1) h
  ·injection h with h;injection h with h1 h2;subst h1;subst h2;exact chosen_look hu hk
theorem choiceD_look{inner:Bool}:Zvx (choiceD prg ere l C inner):=by
 intro s t s' h;unfold choiceD at h;split at h
 ·cases h
 ·next t1 s1 e1=>
  obtain⟨a1,a2⟩:=Zs8 hC e1;exact Ztr hC _ _ _ _ _ (fun x hx=>by rw[List.mem_singleton.1 hx];exact a2) (show Nd.looks [t1] _ _=_ by rw[looks_one];exact a1) h
end
theorem chD_look{ere:Bool}{l:List UInt8}:∀n,Zvx (chD prg ere l n)
 |0=>by rw[chD];exact choiceD_look (fun f hf=>by cases hf)
 |n+1=>by rw[chD];exact choiceD_look (fun f hf=>by injection hf with hf;subst hf;exact chD_look n)
theorem parseD_right{ere:Bool}{l:List UInt8}{t:Nd}{s:RxS}(h:Zac prg ere l=.inr (t,s)):t.right=true:=by
 unfold Zac at h;split at h
 ·cases h
 ·have:=chD_look 12 _ _ _ h;unfold Nd.right;have e:t.look 0 []=some ((s.opened:Int),ci s.closed):=this;rw[e];rfl
def dig(d:Nat):UInt8:=UInt8.ofNat (48+d)
def dgF:Nat→Nat→List UInt8
 |0,_=>[]
 |f+1,n=>if n<10 then[dig n]else dgF f (n/10)++[dig (n%10)]
def dg(n:Nat):List UInt8:=dgF 5 n
end Go.Proofs.YtkfddjopbocpkaaGreatDoor
