/- Lemmas of this claim. -/
import Derived.Test.YtgllcniibbaoaaaGreatDoorK08
set_option linter.all false
set_option maxRecDepth 100000
set_option maxHeartbeats 24000000
namespace Go.Proofs.YtgllcniibbaoaaaGreatDoor
open Go.Lib (hid)
open Go.RowKit
def Zy2:(Int×Nat)⊕It→Value
 | .inl z=>.tuple #[ZcR S4.zero,.bool false,.int .i64 0,.int .i64 z.1,.int .i64 z.2]
 | .inr x=>.tuple #[ZcR x.set,.bool x.one.isSome,.int .i64 x.next,.int .i64 0,.int .i64 0]
theorem ZxY{fn:Func}{p q r s' t':Tmp}(h:fn.results= #[.cell p 33,.tmp q,.tmp r,.tmp s',.tmp t']){tmps:Array Value}{b:Nat}(ht:tmps.getD p undef=.pointer (some ⟨b,0,none⟩)){u v x y:Value}(hq:tmps.getD q undef=u)(hr:tmps.getD r undef=v)(hs:tmps.getD s' undef=x)(hu:tmps.getD t' undef=y){W:World}{s:S4}
 (hb:W.heap[b]? =some (.cells #[.int .u64 s.a,.int .u64 s.b,.int .u64 s.c,.int .u64 s.d] 33 (0,0))):(results fn tmps).run Tryz.prog W=.ok (.tuple #[ZcR s,u,v,x,y]) W:=by
 have c0:=cell_at (j:=0) (v:=.int .u64 s.a) hb rfl;have c1:=cell_at (j:=1) (v:=.int .u64 s.b) hb rfl;have c2:=cell_at (j:=2) (v:=.int .u64 s.c) hb rfl;have c3:=cell_at (j:=3) (v:=.int .u64 s.d) hb rfl;have i:tmps[p]?.getD undef=.pointer (some ⟨b,0,none⟩):=by rw[←ht];simp
 have e:tmps[q]?.getD undef=u:=by rw[←hq];simp
 have f:tmps[r]?.getD undef=v:=by rw[←hr];simp
 have g:tmps[s']?.getD undef=x:=by rw[←hs];simp
 have k:tmps[t']?.getD undef=y:=by rw[←hu];simp
 simp only[results,h];simp[i,e,f,g,k,go_sem,c0,c1,c2,c3]
theorem ZwS(s:ByteArray)(o:Option (Int→Bool))(ho:Zak s=o)(w:World):Calls Tryz.prog 182 #[.string s] w fun e w'=>e=.returned (.tuple #[ZcR (ZaD o),.bool o.isSome])∧Fr nob w w':=by
 subst ho;exact ZwL s w
def ZAz(R:(Int×Nat)⊕It)(w:World)(e:Ending)(w':World):Prop:=e=.returned (Zy2 R)∧Fr nob w w'
abbrev Zyh(l:List UInt8)(a:Nat)(w:World):Prop:=Calls Tryz.prog 164 #[.string ⟨l.toArray⟩,.int .i64 a] w (ZAz (itm l a) w)
theorem Zzv(l:List UInt8)(a:Nat)(w:World)(hl:l.length≤100000)(ha:l.length≤a)(ha2:a≤1000000):Zyh l a w:=by
 obtain⟨w0,b⟩:∃w0,w0=(w.alloc (.cells #[.int .u64 0,.int .u64 0,.int .u64 0,.int .u64 0] 33)).alloc (.cells #[.int .u64 0,.int .u64 0,.int .u64 0,.int .u64 0] 33):=⟨_,rfl⟩;have hz:w0.heap[w.heap.size]? =some (.cells #[.int .u64 0,.int .u64 0,.int .u64 0,.int .u64 0] 33 (0,0)):=by rw[b];exact heap_alloc_lt _ (newAt _ _)
 have hn:w0.heap[w.heap.size+1]? =some (.cells #[.int .u64 0,.int .u64 0,.int .u64 0,.int .u64 0] 33 (0,0)):=by
  rw[b];have:=newAt (w.alloc (.cells #[.int .u64 0,.int .u64 0,.int .u64 0,.int .u64 0] 33)) (.cells #[.int .u64 0,.int .u64 0,.int .u64 0,.int .u64 0] 33);simpa using this
 have f0:Fr nob w w0:=by rw[b];exact((Fr.refl _ _).alloc _).alloc _
 have rz:=Zl hz;have rn:=Zl hn;have HZ:=hid hz;have HN:=hid hn;have F0:=hid f0;have HW:=hid b;clear b hz hn f0;obtain⟨R,hR⟩:∃R,itm l a=R:=⟨_,rfl⟩;unfold Zyh;rw[hR];have HR:=hid hR;clear hR;have t1:(l.length:Int)≤a:=by omega
 go_enter Tryz.func164,Tryz.ntmps164
 iterate 27 go_step
 rw[←HW.out];go_wp2;(try simp only[Exit.inBlock,Exit.then]);refine bodyPost_ret (ZxY (s:=S4.zero) (by rfl) (by rfl) (by rfl) (by rfl) (by rfl) (by rfl) (setFour_heap HZ.out _ _ _ _)) rfl ⟨?_,setFour_frS F0.out (Nat.le_refl _) _ _ _ _⟩;rw[←HR.out,ZnL ha];rfl
theorem ritem_a(l:List UInt8)(a:Nat)(w:World)(hl:l.length≤100000)(ha:a<l.length)(h:¬l[a]=91):Zyh l a w:=by
 have d:=hid (show itm l a=.inr ⟨spn (l[a]).toNat (l[a]).toNat,some l[a],a+1⟩ by exact Zzu ha h);obtain⟨w0,b⟩:∃w0,w0=(w.alloc (.cells #[.int .u64 0,.int .u64 0,.int .u64 0,.int .u64 0] 33)).alloc (.cells #[.int .u64 0,.int .u64 0,.int .u64 0,.int .u64 0] 33):=⟨_,rfl⟩;have hz:w0.heap[w.heap.size]? =some (.cells #[.int .u64 0,.int .u64 0,.int .u64 0,.int .u64 0] 33 (0,0)):=by rw[b];exact heap_alloc_lt _ (newAt _ _)
 have hn:w0.heap[w.heap.size+1]? =some (.cells #[.int .u64 0,.int .u64 0,.int .u64 0,.int .u64 0] 33 (0,0)):=by
  rw[b];have:=newAt (w.alloc (.cells #[.int .u64 0,.int .u64 0,.int .u64 0,.int .u64 0] 33)) (.cells #[.int .u64 0,.int .u64 0,.int .u64 0,.int .u64 0] 33);simpa using this
 have f0:Fr nob w w0:=by rw[b];exact((Fr.refl _ _).alloc _).alloc _
 have rz:=Zl hz;have rn:=Zl hn;have HZ:=hid hz;have HN:=hid hn;have F0:=hid f0;have HW:=hid b;clear b hz hn f0;obtain⟨R,hR⟩:∃R,itm l a=R:=⟨_,rfl⟩;unfold Zyh;rw[hR];have HR:=hid hR;clear hR;have t1:¬(l.length:Int)≤a:=by omega
 have m:(a:Int)<l.length:=by omega
 have i:(0:Int)≤a:=by omega
 have j:IntKind.i64.wrap ((a:Int)+1)=(a:Int)+1:=IntWalk.i64_in _ (by omega);have t2:(((l[a]).toNat:Int) !=91)=true:=ZoW h;have t3:(((l[a]).toNat:Int)==91)=false:=Zn h;clear h;go_enter Tryz.func164,Tryz.ntmps164;go_wp2_with fail;rw[←HW.out];obtain⟨S,hS⟩:∃S,spn (l[a]).toNat (l[a]).toNat=S:=⟨_,rfl⟩;have f:=hid (fun w'=>(show _ from hS▸spanR_lit (l[a]).toNat (l[a]).toNat w' (l[a]).toNat_lt (l[a]).toNat_lt:Calls Tryz.prog 146 #[.int .u8 (l[a]).toNat,.int .u8 (l[a]).toNat] w' fun e w''=>e=.returned (ZcR S)∧Fr nob w' w''));have HS:=hid hS;clear hS
 go_region_held3 (fun w'=>True) (trivial) (first|(go_at_call 146;(refine(f.out _).mono ?_);rintro e w2 ⟨rfl,f2⟩;have c:=f2.heap HZ.out (fun x=>x);have k:=Zl c;have g:=hid c;have F2:=hid f2;clear c f2))
 all_goals
  go_wp2;(try simp only[Exit.inBlock,Exit.then]);refine bodyPost_ret (ZxY (s:=S) (by rfl) (by rfl) (by rfl) (by rfl) (by rfl) (by rfl) (setFour_heap g.out _ _ _ _)) rfl ⟨?_,setFour_frS (F0.out.drew.trans' F2.out) (Nat.le_refl _) _ _ _ _⟩;rw[←HR.out,d.out,←HS.out];rfl
theorem ZAf(l:List UInt8)(a:Nat)(w:World)(hl:l.length≤100000)(ha:a<l.length)(h:l[a]=91)(h2:l.length≤a+1):Zyh l a w:=by
 have d:=hid (show itm l a=.inr ⟨spn (l[a]).toNat (l[a]).toNat,some l[a],a+1⟩ by exact ZzN ha h2);obtain⟨w0,b⟩:∃w0,w0=(w.alloc (.cells #[.int .u64 0,.int .u64 0,.int .u64 0,.int .u64 0] 33)).alloc (.cells #[.int .u64 0,.int .u64 0,.int .u64 0,.int .u64 0] 33):=⟨_,rfl⟩;have hz:w0.heap[w.heap.size]? =some (.cells #[.int .u64 0,.int .u64 0,.int .u64 0,.int .u64 0] 33 (0,0)):=by rw[b];exact heap_alloc_lt _ (newAt _ _)
 have hn:w0.heap[w.heap.size+1]? =some (.cells #[.int .u64 0,.int .u64 0,.int .u64 0,.int .u64 0] 33 (0,0)):=by
  rw[b];have:=newAt (w.alloc (.cells #[.int .u64 0,.int .u64 0,.int .u64 0,.int .u64 0] 33)) (.cells #[.int .u64 0,.int .u64 0,.int .u64 0,.int .u64 0] 33);simpa using this
 have f0:Fr nob w w0:=by rw[b];exact((Fr.refl _ _).alloc _).alloc _
 have rz:=Zl hz;have rn:=Zl hn;have HZ:=hid hz;have HN:=hid hn;have F0:=hid f0;have HW:=hid b;clear b hz hn f0;obtain⟨R,hR⟩:∃R,itm l a=R:=⟨_,rfl⟩;unfold Zyh;rw[hR];have HR:=hid hR;clear hR;have t1:¬(l.length:Int)≤a:=by omega
 have m:(a:Int)<l.length:=by omega
 have i:(0:Int)≤a:=by omega
 have j:IntKind.i64.wrap ((a:Int)+1)=(a:Int)+1:=IntWalk.i64_in _ (by omega);have t2:(((l[a]).toNat:Int) !=91)=false:=tn_eq h;have t3:(l.length:Int)≤(a:Int)+1:=by omega
 clear h h2;go_enter Tryz.func164,Tryz.ntmps164;go_wp2_with fail;rw[←HW.out];obtain⟨S,hS⟩:∃S,spn (l[a]).toNat (l[a]).toNat=S:=⟨_,rfl⟩;have f:=hid (fun w'=>(show _ from hS▸spanR_lit (l[a]).toNat (l[a]).toNat w' (l[a]).toNat_lt (l[a]).toNat_lt:Calls Tryz.prog 146 #[.int .u8 (l[a]).toNat,.int .u8 (l[a]).toNat] w' fun e w''=>e=.returned (ZcR S)∧Fr nob w' w''));have HS:=hid hS;clear hS
 go_region_held3 (fun w'=>True) (trivial) (first|(go_at_call 146;(refine(f.out _).mono ?_);rintro e w2 ⟨rfl,f2⟩;have c:=f2.heap HZ.out (fun x=>x);have k:=Zl c;have g:=hid c;have F2:=hid f2;clear c f2))
 all_goals
  go_wp2;(try simp only[Exit.inBlock,Exit.then]);refine bodyPost_ret (ZxY (s:=S) (by rfl) (by rfl) (by rfl) (by rfl) (by rfl) (by rfl) (setFour_heap g.out _ _ _ _)) rfl ⟨?_,setFour_frS (F0.out.drew.trans' F2.out) (Nat.le_refl _) _ _ _ _⟩;rw[←HR.out,d.out,←HS.out];rfl
theorem ritem_c(l:List UInt8)(a:Nat)(w:World)(hl:l.length≤100000)(ha:a<l.length)(h:l[a]=91)(h2:a+1<l.length)(h3:ZjX l[a+1]=false):Zyh l a w:=by
 have d:=hid (show itm l a=.inr ⟨spn (l[a]).toNat (l[a]).toNat,some l[a],a+1⟩ by exact Zzc h2 h3);obtain⟨w0,b⟩:∃w0,w0=(w.alloc (.cells #[.int .u64 0,.int .u64 0,.int .u64 0,.int .u64 0] 33)).alloc (.cells #[.int .u64 0,.int .u64 0,.int .u64 0,.int .u64 0] 33):=⟨_,rfl⟩;have hz:w0.heap[w.heap.size]? =some (.cells #[.int .u64 0,.int .u64 0,.int .u64 0,.int .u64 0] 33 (0,0)):=by rw[b];exact heap_alloc_lt _ (newAt _ _)
 have hn:w0.heap[w.heap.size+1]? =some (.cells #[.int .u64 0,.int .u64 0,.int .u64 0,.int .u64 0] 33 (0,0)):=by
  rw[b];have:=newAt (w.alloc (.cells #[.int .u64 0,.int .u64 0,.int .u64 0,.int .u64 0] 33)) (.cells #[.int .u64 0,.int .u64 0,.int .u64 0,.int .u64 0] 33);simpa using this
 have f0:Fr nob w w0:=by rw[b];exact((Fr.refl _ _).alloc _).alloc _
 have rz:=Zl hz;have rn:=Zl hn;have HZ:=hid hz;have HN:=hid hn;have F0:=hid f0;have HW:=hid b;clear b hz hn f0;obtain⟨R,hR⟩:∃R,itm l a=R:=⟨_,rfl⟩;unfold Zyh;rw[hR];have HR:=hid hR;clear hR;have t1:¬(l.length:Int)≤a:=by omega
 have m:(a:Int)<l.length:=by omega
 have i:(0:Int)≤a:=by omega
 have j:IntKind.i64.wrap ((a:Int)+1)=(a:Int)+1:=IntWalk.i64_in _ (by omega);have t2:(((l[a]).toNat:Int) !=91)=false:=tn_eq h;have t3:¬(l.length:Int)≤(a:Int)+1:=by omega
 have n:(a:Int)+1<l.length:=by omega
 have hk:¬l[a+1]=58∧¬l[a+1]=61∧¬l[a+1]=46:=by unfold ZjX at h3;simp at h3;exact⟨h3.1.1,h3.1.2,h3.2⟩
 have t4:(((l[a+1]).toNat:Int) !=58)=true:=ZoW hk.1;have t5:(((l[a+1]).toNat:Int) !=61)=true:=ZoW hk.2.1;have t6:(((l[a+1]).toNat:Int) !=46)=true:=ZoW hk.2.2;clear h h3 hk;go_enter Tryz.func164,Tryz.ntmps164;go_wp2_with fail;rw[←HW.out];obtain⟨S,hS⟩:∃S,spn (l[a]).toNat (l[a]).toNat=S:=⟨_,rfl⟩;have f:=hid (fun w'=>(show _ from hS▸spanR_lit (l[a]).toNat (l[a]).toNat w' (l[a]).toNat_lt (l[a]).toNat_lt:Calls Tryz.prog 146 #[.int .u8 (l[a]).toNat,.int .u8 (l[a]).toNat] w' fun e w''=>e=.returned (ZcR S)∧Fr nob w' w''));have HS:=hid hS;clear hS
 go_region_held3 (fun w'=>True) (trivial) (first|(go_at_call 146;(refine(f.out _).mono ?_);rintro e w2 ⟨rfl,f2⟩;have c:=f2.heap HZ.out (fun x=>x);have k:=Zl c;have g:=hid c;have F2:=hid f2;clear c f2))
 all_goals
  go_wp2;(try simp only[Exit.inBlock,Exit.then]);refine bodyPost_ret (ZxY (s:=S) (by rfl) (by rfl) (by rfl) (by rfl) (by rfl) (by rfl) (setFour_heap g.out _ _ _ _)) rfl ⟨?_,setFour_frS (F0.out.drew.trans' F2.out) (Nat.le_refl _) _ _ _ _⟩;rw[←HR.out,d.out,←HS.out];rfl
theorem ritem_58(l:List UInt8)(a:Nat)(w:World)(hl:l.length≤100000)(h2:a+1<l.length)(h:l[a]=91)(hk:l[a+1]=58):Zyh l a w:=by
 have t:=hid (Zyz h2 h hk (by rfl));obtain⟨w0,k⟩:∃w0,w0=(w.alloc (.cells #[.int .u64 0,.int .u64 0,.int .u64 0,.int .u64 0] 33)).alloc (.cells #[.int .u64 0,.int .u64 0,.int .u64 0,.int .u64 0] 33):=⟨_,rfl⟩;have hz:w0.heap[w.heap.size]? =some (.cells #[.int .u64 0,.int .u64 0,.int .u64 0,.int .u64 0] 33 (0,0)):=by rw[k];exact heap_alloc_lt _ (newAt _ _)
 have hn:w0.heap[w.heap.size+1]? =some (.cells #[.int .u64 0,.int .u64 0,.int .u64 0,.int .u64 0] 33 (0,0)):=by
  rw[k];have:=newAt (w.alloc (.cells #[.int .u64 0,.int .u64 0,.int .u64 0,.int .u64 0] 33)) (.cells #[.int .u64 0,.int .u64 0,.int .u64 0,.int .u64 0] 33);simpa using this
 have f0:Fr nob w w0:=by rw[k];exact((Fr.refl _ _).alloc _).alloc _
 have rz:=Zl hz;have rn:=Zl hn;have HZ:=hid hz;have HN:=hid hn;have F0:=hid f0;have HW:=hid k;clear k hz hn f0;obtain⟨R,hR⟩:∃R,itm l a=R:=⟨_,rfl⟩;unfold Zyh;rw[hR];have HR:=hid hR;clear hR;have t1:¬(l.length:Int)≤a:=by omega
 have Q:(a:Int)<l.length:=by omega
 have H:(0:Int)≤a:=by omega
 have t2:(((l[a]).toNat:Int) !=91)=false:=tn_eq h;have t3:¬(l.length:Int)≤(a:Int)+1:=by omega
 have U:(a:Int)+1<l.length:=by omega
 have tk:((l[a+1]).toNat:Int)=58:=by rw[hk];rfl
 clear h hk;obtain⟨E,hE⟩:∃E,fnd l 58 (l.length+1) (a+2)=E:=⟨_,rfl⟩;have HE:=hid hE;clear hE;go_enter Tryz.func164,Tryz.ntmps164
 iterate 27 go_step
 rw[←HW.out];go_wp2_with fail
 go_loopg [12] (l.length+1) (fun n v wr=>∃p:Nat,v=.int .i64 p∧a+2≤p∧p≤l.length+1∧l.length<n+p∧fnd l 58 n p=E∧w0=wr)
 case atStart=>exact⟨a+2,by go_num,by omega,by omega,by omega,HE.out,rfl⟩
 case round=>
  obtain⟨p,rfl,hp,J,K,hf,rfl⟩:=hrel;have I:(a:Int)+2≤p:=by omega
  by_cases g:p+1<l.length
  ·obtain⟨m,rfl⟩:∃m,gk=m+1:=⟨gk-1,by omega⟩;have G:(p:Int)+1<l.length:=by omega
   by_cases f:l[p]'(by omega)=58
   ·have u1:(((l[p]'(by omega)).toNat:Int) !=58)=false:=tn_eq f;have V:((l[p]'(by omega)).toNat:Int)=58:=by rw[f];rfl
    by_cases i:l[p+1]=93
    ·have u2:(((l[p+1]).toNat:Int) !=93)=false:=tn_eq i;have y:fnd l 58 (l.length+1) (a+2)=some p:=by
      rw[HE.out,←hf,fnd,if_pos g,if_pos ⟨by rw[List.getElem?_eq_getElem (by omega),f],by rw[List.getElem?_eq_getElem g,i]⟩]
     have D:=Zaf (P:=Tryz.prog) l (lo:=(a:Int)+2) (hi:=(p:Int)) Tryz.underlying9 (by omega) (by omega) (by omega);rw[show((a:Int)+2).toNat=a+2 by omega,show((p:Int)).toNat=p by omega]at D;obtain⟨nm,A⟩:∃nm,(l.drop (a+2)).take (p-(a+2))=nm:=⟨_,rfl⟩;rw[A]at D;have j:nam l a p=nm:=A;have M:IntKind.i64.wrap ((p:Int)+2)=(p:Int)+2:=IntWalk.i64_in _ (by omega);obtain⟨o,ho⟩:∃o,Zak ⟨nm.toArray⟩=o:=⟨_,rfl⟩;have HC:=hid (fun w=>ZwS ⟨nm.toArray⟩ o ho w);have q:=hid (show itmN l a 58=ZAy a p o by
      cases o with
      |none=>exact Zi2 y (by rw[j,ho])
      |some p0=>exact Zl4 y (by rw[j,ho]))
     clear hf f i y A j ho;go_wp2_with fail;refine(HC.out w0).mono ?_;obtain⟨S,hS⟩:∃S,ZaD o=S:=⟨_,rfl⟩;rw[hS];have HS:=hid hS;clear hS;rintro e w2 ⟨rfl,f2⟩;have B:=f2.heap HZ.out (fun x=>x);have O:=Zl B;have N:=Zl (f2.heap HN.out (fun x=>x));have L:=Zl (newAt w2 (.cells #[.int .u64 S.a,.int .u64 S.b,.int .u64 S.c,.int .u64 S.d] 33));have C:=hid B;have F2:=hid (F0.out.trans' f2);clear B f2;cases o with
     |none=>
      have u:=hid (((Fr.refl nob w2).alloc (.cells #[.int .u64 S.a,.int .u64 S.b,.int .u64 S.c,.int .u64 S.d] 33)).heap C.out (fun x=>x));have r:=hid (F2.out.alloc (.cells #[.int .u64 S.a,.int .u64 S.b,.int .u64 S.c,.int .u64 S.d] 33));go_wp2;(try simp only[Exit.inBlock,Exit.then]);refine bodyPost_ret (ZxY (s:=S4.zero) (by rfl) (by rfl) (by rfl) (by rfl) (by rfl) (by rfl) (setFour_heap u.out _ _ _ _)) rfl ⟨?_,setFour_frS r.out (Nat.le_refl _) _ _ _ _⟩;rw[←HR.out,t.out,q.out];rfl
     |some p0=>
      have u:=hid (((Fr.refl nob w2).alloc (.cells #[.int .u64 S.a,.int .u64 S.b,.int .u64 S.c,.int .u64 S.d] 33)).heap C.out (fun x=>x));have r:=hid (F2.out.alloc (.cells #[.int .u64 S.a,.int .u64 S.b,.int .u64 S.c,.int .u64 S.d] 33));go_wp2;(try simp only[Exit.inBlock,Exit.then]);refine bodyPost_ret (ZxY (s:=S) (by rfl) (by rfl) (by rfl) (by rfl) (by rfl) (by rfl) (setFour_heap u.out _ _ _ _)) rfl ⟨?_,setFour_frS r.out (Nat.le_refl _) _ _ _ _⟩;rw[←HR.out,t.out,q.out,←HS.out];rfl
    ·have u2:(((l[p+1]).toNat:Int) !=93)=true:=ZoW i;have HF:=hid (show fnd l 58 m (p+1)=E by rw[←hf,fnd,if_pos g,if_neg (fun e=>i (by have:=e.2;rw[List.getElem?_eq_getElem g]at this;exact Option.some.inj this))]);clear hf f i;go_wp2;go_roundg m
     case measure=>omega
     case rel=>exact⟨p+1,by go_num,by omega,by omega,by omega,HF.out,rfl⟩
   ·have u1:(((l[p]'(by omega)).toNat:Int) !=58)=true:=ZoW f;have HF:=hid (show fnd l 58 m (p+1)=E by rw[←hf,fnd,if_pos g,if_neg (fun e=>f (by have:=e.1;rw[List.getElem?_eq_getElem (by omega)]at this;exact Option.some.inj this))]);clear hf f;go_wp2;go_roundg m
    case measure=>omega
    case rel=>exact⟨p+1,by go_num,by omega,by omega,by omega,HF.out,rfl⟩
  ·have F:¬(p:Int)+1<l.length:=by omega
   have q:=hid (show itmN l a 58=.inl (5,l.length)from ZjY (by
    rw[show a+2+skp 58=a+2 from rfl,HE.out,←hf];cases gk with
    |zero=>rfl
    |succ m=>rw[fnd,if_neg g]))
   clear hf;go_wp2;(try simp only[Exit.inBlock,Exit.then]);refine bodyPost_ret (ZxY (s:=S4.zero) (by rfl) (by rfl) (by rfl) (by rfl) (by rfl) (by rfl) (setFour_heap HZ.out _ _ _ _)) rfl ⟨?_,setFour_frS F0.out (Nat.le_refl _) _ _ _ _⟩;rw[←HR.out,t.out,q.out];rfl
theorem ritem_61(l:List UInt8)(a:Nat)(w:World)(hl:l.length≤100000)(h2:a+1<l.length)(h:l[a]=91)(hk:l[a+1]=61):Zyh l a w:=by
 have q:=hid (Zyz h2 h hk (by rfl));obtain⟨w0,j⟩:∃w0,w0=(w.alloc (.cells #[.int .u64 0,.int .u64 0,.int .u64 0,.int .u64 0] 33)).alloc (.cells #[.int .u64 0,.int .u64 0,.int .u64 0,.int .u64 0] 33):=⟨_,rfl⟩;have hz:w0.heap[w.heap.size]? =some (.cells #[.int .u64 0,.int .u64 0,.int .u64 0,.int .u64 0] 33 (0,0)):=by rw[j];exact heap_alloc_lt _ (newAt _ _)
 have hn:w0.heap[w.heap.size+1]? =some (.cells #[.int .u64 0,.int .u64 0,.int .u64 0,.int .u64 0] 33 (0,0)):=by
  rw[j];have:=newAt (w.alloc (.cells #[.int .u64 0,.int .u64 0,.int .u64 0,.int .u64 0] 33)) (.cells #[.int .u64 0,.int .u64 0,.int .u64 0,.int .u64 0] 33);simpa using this
 have f0:Fr nob w w0:=by rw[j];exact((Fr.refl _ _).alloc _).alloc _
 have rz:=Zl hz;have rn:=Zl hn;have HZ:=hid hz;have HN:=hid hn;have F0:=hid f0;have HW:=hid j;clear j hz hn f0;obtain⟨R,hR⟩:∃R,itm l a=R:=⟨_,rfl⟩;unfold Zyh;rw[hR];have HR:=hid hR;clear hR;have t1:¬(l.length:Int)≤a:=by omega
 have J:(a:Int)<l.length:=by omega
 have C:(0:Int)≤a:=by omega
 have t2:(((l[a]).toNat:Int) !=91)=false:=tn_eq h;have t3:¬(l.length:Int)≤(a:Int)+1:=by omega
 have K:(a:Int)+1<l.length:=by omega
 have tk:((l[a+1]).toNat:Int)=61:=by rw[hk];rfl
 clear h hk;obtain⟨E,hE⟩:∃E,fnd l 61 (l.length+1) (a+2+1)=E:=⟨_,rfl⟩;have HE:=hid hE;clear hE;go_enter Tryz.func164,Tryz.ntmps164
 iterate 27 go_step
 rw[←HW.out];go_wp2_with fail
 go_loopg [12] (l.length+1) (fun n v wr=>∃p:Nat,v=.int .i64 p∧a+2+1≤p∧p≤l.length+1∧l.length<n+p∧fnd l 61 n p=E∧w0=wr)
 case atStart=>exact⟨a+2+1,by go_num,by omega,by omega,by omega,HE.out,rfl⟩
 case round=>
  obtain⟨p,rfl,hp,F,G,hf,rfl⟩:=hrel;have D:(a:Int)+2≤p:=by omega
  by_cases g:p+1<l.length
  ·obtain⟨m,rfl⟩:∃m,gk=m+1:=⟨gk-1,by omega⟩;have B:(p:Int)+1<l.length:=by omega
   by_cases b:l[p]'(by omega)=61
   ·have u1:(((l[p]'(by omega)).toNat:Int) !=61)=false:=tn_eq b;have L:((l[p]'(by omega)).toNat:Int)=61:=by rw[b];rfl
    by_cases d:l[p+1]=93
    ·have u2:(((l[p+1]).toNat:Int) !=93)=false:=tn_eq d;have k:fnd l 61 (l.length+1) (a+2+1)=some p:=by
      rw[HE.out,←hf,fnd,if_pos g,if_pos ⟨by rw[List.getElem?_eq_getElem (by omega),b],by rw[List.getElem?_eq_getElem g,d]⟩]
     have t:=Zaf (P:=Tryz.prog) l (lo:=(a:Int)+2) (hi:=(p:Int)) Tryz.underlying9 (by omega) (by omega) (by omega);rw[show((a:Int)+2).toNat=a+2 by omega,show((p:Int)).toNat=p by omega]at t;obtain⟨nm,o⟩:∃nm,(l.drop (a+2)).take (p-(a+2))=nm:=⟨_,rfl⟩;rw[o]at t;have f:nam l a p=nm:=o;have H:IntKind.i64.wrap ((p:Int)+2)=(p:Int)+2:=IntWalk.i64_in _ (by omega);by_cases hd:nm.length=1
     ·obtain⟨c,rfl⟩:=List.length_eq_one_iff.1 hd;have i:=hid (Zl2 (by decide) k f);clear hf b d k o f hd;have e1:(((1:Nat):Int) !=1)=false:=by simp
      obtain⟨S,hS⟩:∃S,spn c.toNat c.toNat=S:=⟨_,rfl⟩;have u:=hid (fun w'=>(show _ from hS▸spanR_lit c.toNat c.toNat w' c.toNat_lt c.toNat_lt:Calls Tryz.prog 146 #[.int .u8 c.toNat,.int .u8 c.toNat] w' fun e w''=>e=.returned (ZcR S)∧Fr nob w' w''));have HS:=hid hS;clear hS;go_wp2_with fail
      go_region_held3 (fun w'=>True) (trivial) (first|(go_at_call 146;(refine(u.out _).mono ?_);rintro e w2 ⟨rfl,f2⟩;have r:=f2.heap HZ.out (fun x=>x);have I:=Zl r;have y:=hid r;have F2:=hid f2;clear r f2))
      all_goals
       go_wp2;(try simp only[Exit.inBlock,Exit.then]);refine bodyPost_ret (ZxY (s:=S) (by rfl) (by rfl) (by rfl) (by rfl) (by rfl) (by rfl) (setFour_heap y.out _ _ _ _)) rfl ⟨?_,setFour_frS (F0.out.drew.trans' F2.out) (Nat.le_refl _) _ _ _ _⟩;rw[←HR.out,q.out,i.out,←HS.out];rfl
     ·have i:=hid (Zl3 (by decide) k (by rw[f];exact hd));have e1:((nm.length:Int) !=1)=true:=by simp;omega
      clear hf b d k o f hd;go_wp2;(try simp only[Exit.inBlock,Exit.then]);refine bodyPost_ret (ZxY (s:=S4.zero) (by rfl) (by rfl) (by rfl) (by rfl) (by rfl) (by rfl) (setFour_heap HZ.out _ _ _ _)) rfl ⟨?_,setFour_frS F0.out (Nat.le_refl _) _ _ _ _⟩;rw[←HR.out,q.out,i.out];rfl
    ·have u2:(((l[p+1]).toNat:Int) !=93)=true:=ZoW d;have HF:=hid (show fnd l 61 m (p+1)=E by rw[←hf,fnd,if_pos g,if_neg (fun e=>d (by have:=e.2;rw[List.getElem?_eq_getElem g]at this;exact Option.some.inj this))]);clear hf b d;go_wp2;go_roundg m
     case measure=>omega
     case rel=>exact⟨p+1,by go_num,by omega,by omega,by omega,HF.out,rfl⟩
   ·have u1:(((l[p]'(by omega)).toNat:Int) !=61)=true:=ZoW b;have HF:=hid (show fnd l 61 m (p+1)=E by rw[←hf,fnd,if_pos g,if_neg (fun e=>b (by have:=e.1;rw[List.getElem?_eq_getElem (by omega)]at this;exact Option.some.inj this))]);clear hf b;go_wp2;go_roundg m
    case measure=>omega
    case rel=>exact⟨p+1,by go_num,by omega,by omega,by omega,HF.out,rfl⟩
  ·have A:¬(p:Int)+1<l.length:=by omega
   have i:=hid (show itmN l a 61=.inl (5,l.length)from ZjY (by
    rw[show a+2+skp 61=a+2+1 from rfl,HE.out,←hf];cases gk with
    |zero=>rfl
    |succ m=>rw[fnd,if_neg g]))
   clear hf;go_wp2;(try simp only[Exit.inBlock,Exit.then]);refine bodyPost_ret (ZxY (s:=S4.zero) (by rfl) (by rfl) (by rfl) (by rfl) (by rfl) (by rfl) (setFour_heap HZ.out _ _ _ _)) rfl ⟨?_,setFour_frS F0.out (Nat.le_refl _) _ _ _ _⟩;rw[←HR.out,q.out,i.out];rfl
theorem ritem_46(l:List UInt8)(a:Nat)(w:World)(hl:l.length≤100000)(h2:a+1<l.length)(h:l[a]=91)(hk:l[a+1]=46):Zyh l a w:=by
 have q:=hid (Zyz h2 h hk (by rfl));obtain⟨w0,j⟩:∃w0,w0=(w.alloc (.cells #[.int .u64 0,.int .u64 0,.int .u64 0,.int .u64 0] 33)).alloc (.cells #[.int .u64 0,.int .u64 0,.int .u64 0,.int .u64 0] 33):=⟨_,rfl⟩;have hz:w0.heap[w.heap.size]? =some (.cells #[.int .u64 0,.int .u64 0,.int .u64 0,.int .u64 0] 33 (0,0)):=by rw[j];exact heap_alloc_lt _ (newAt _ _)
 have hn:w0.heap[w.heap.size+1]? =some (.cells #[.int .u64 0,.int .u64 0,.int .u64 0,.int .u64 0] 33 (0,0)):=by
  rw[j];have:=newAt (w.alloc (.cells #[.int .u64 0,.int .u64 0,.int .u64 0,.int .u64 0] 33)) (.cells #[.int .u64 0,.int .u64 0,.int .u64 0,.int .u64 0] 33);simpa using this
 have f0:Fr nob w w0:=by rw[j];exact((Fr.refl _ _).alloc _).alloc _
 have rz:=Zl hz;have rn:=Zl hn;have HZ:=hid hz;have HN:=hid hn;have F0:=hid f0;have HW:=hid j;clear j hz hn f0;obtain⟨R,hR⟩:∃R,itm l a=R:=⟨_,rfl⟩;unfold Zyh;rw[hR];have HR:=hid hR;clear hR;have t1:¬(l.length:Int)≤a:=by omega
 have J:(a:Int)<l.length:=by omega
 have C:(0:Int)≤a:=by omega
 have t2:(((l[a]).toNat:Int) !=91)=false:=tn_eq h;have t3:¬(l.length:Int)≤(a:Int)+1:=by omega
 have K:(a:Int)+1<l.length:=by omega
 have tk:((l[a+1]).toNat:Int)=46:=by rw[hk];rfl
 clear h hk;obtain⟨E,hE⟩:∃E,fnd l 46 (l.length+1) (a+2+1)=E:=⟨_,rfl⟩;have HE:=hid hE;clear hE;go_enter Tryz.func164,Tryz.ntmps164
 iterate 27 go_step
 rw[←HW.out];go_wp2_with fail
 go_loopg [12] (l.length+1) (fun n v wr=>∃p:Nat,v=.int .i64 p∧a+2+1≤p∧p≤l.length+1∧l.length<n+p∧fnd l 46 n p=E∧w0=wr)
 case atStart=>exact⟨a+2+1,by go_num,by omega,by omega,by omega,HE.out,rfl⟩
 case round=>
  obtain⟨p,rfl,hp,F,G,hf,rfl⟩:=hrel;have D:(a:Int)+2≤p:=by omega
  by_cases g:p+1<l.length
  ·obtain⟨m,rfl⟩:∃m,gk=m+1:=⟨gk-1,by omega⟩;have B:(p:Int)+1<l.length:=by omega
   by_cases b:l[p]'(by omega)=46
   ·have u1:(((l[p]'(by omega)).toNat:Int) !=46)=false:=tn_eq b;have L:((l[p]'(by omega)).toNat:Int)=46:=by rw[b];rfl
    by_cases d:l[p+1]=93
    ·have u2:(((l[p+1]).toNat:Int) !=93)=false:=tn_eq d;have k:fnd l 46 (l.length+1) (a+2+1)=some p:=by
      rw[HE.out,←hf,fnd,if_pos g,if_pos ⟨by rw[List.getElem?_eq_getElem (by omega),b],by rw[List.getElem?_eq_getElem g,d]⟩]
     have t:=Zaf (P:=Tryz.prog) l (lo:=(a:Int)+2) (hi:=(p:Int)) Tryz.underlying9 (by omega) (by omega) (by omega);rw[show((a:Int)+2).toNat=a+2 by omega,show((p:Int)).toNat=p by omega]at t;obtain⟨nm,o⟩:∃nm,(l.drop (a+2)).take (p-(a+2))=nm:=⟨_,rfl⟩;rw[o]at t;have f:nam l a p=nm:=o;have H:IntKind.i64.wrap ((p:Int)+2)=(p:Int)+2:=IntWalk.i64_in _ (by omega);by_cases hd:nm.length=1
     ·obtain⟨c,rfl⟩:=List.length_eq_one_iff.1 hd;have i:=hid (Zl2 (by decide) k f);clear hf b d k o f hd;have e1:(((1:Nat):Int) !=1)=false:=by simp
      obtain⟨S,hS⟩:∃S,spn c.toNat c.toNat=S:=⟨_,rfl⟩;have u:=hid (fun w'=>(show _ from hS▸spanR_lit c.toNat c.toNat w' c.toNat_lt c.toNat_lt:Calls Tryz.prog 146 #[.int .u8 c.toNat,.int .u8 c.toNat] w' fun e w''=>e=.returned (ZcR S)∧Fr nob w' w''));have HS:=hid hS;clear hS;go_wp2_with fail
      go_region_held3 (fun w'=>True) (trivial) (first|(go_at_call 146;(refine(u.out _).mono ?_);rintro e w2 ⟨rfl,f2⟩;have r:=f2.heap HZ.out (fun x=>x);have I:=Zl r;have y:=hid r;have F2:=hid f2;clear r f2))
      all_goals
       go_wp2;(try simp only[Exit.inBlock,Exit.then]);refine bodyPost_ret (ZxY (s:=S) (by rfl) (by rfl) (by rfl) (by rfl) (by rfl) (by rfl) (setFour_heap y.out _ _ _ _)) rfl ⟨?_,setFour_frS (F0.out.drew.trans' F2.out) (Nat.le_refl _) _ _ _ _⟩;rw[←HR.out,q.out,i.out,←HS.out];rfl
     ·have i:=hid (Zl3 (by decide) k (by rw[f];exact hd));have e1:((nm.length:Int) !=1)=true:=by simp;omega
      clear hf b d k o f hd;go_wp2;(try simp only[Exit.inBlock,Exit.then]);refine bodyPost_ret (ZxY (s:=S4.zero) (by rfl) (by rfl) (by rfl) (by rfl) (by rfl) (by rfl) (setFour_heap HZ.out _ _ _ _)) rfl ⟨?_,setFour_frS F0.out (Nat.le_refl _) _ _ _ _⟩;rw[←HR.out,q.out,i.out];rfl
    ·have u2:(((l[p+1]).toNat:Int) !=93)=true:=ZoW d;have HF:=hid (show fnd l 46 m (p+1)=E by rw[←hf,fnd,if_pos g,if_neg (fun e=>d (by have:=e.2;rw[List.getElem?_eq_getElem g]at this;exact Option.some.inj this))]);clear hf b d;go_wp2;go_roundg m
     case measure=>omega
     case rel=>exact⟨p+1,by go_num,by omega,by omega,by omega,HF.out,rfl⟩
   ·have u1:(((l[p]'(by omega)).toNat:Int) !=46)=true:=ZoW b;have HF:=hid (show fnd l 46 m (p+1)=E by rw[←hf,fnd,if_pos g,if_neg (fun e=>b (by have:=e.1;rw[List.getElem?_eq_getElem (by omega)]at this;exact Option.some.inj this))]);clear hf b;go_wp2;go_roundg m
    case measure=>omega
    case rel=>exact⟨p+1,by go_num,by omega,by omega,by omega,HF.out,rfl⟩
  ·have A:¬(p:Int)+1<l.length:=by omega
   have i:=hid (show itmN l a 46=.inl (5,l.length)from ZjY (by
    rw[show a+2+skp 46=a+2+1 from rfl,HE.out,←hf];cases gk with
    |zero=>rfl
    |succ m=>rw[fnd,if_neg g]))
   clear hf;go_wp2;(try simp only[Exit.inBlock,Exit.then]);refine bodyPost_ret (ZxY (s:=S4.zero) (by rfl) (by rfl) (by rfl) (by rfl) (by rfl) (by rfl) (setFour_heap HZ.out _ _ _ _)) rfl ⟨?_,setFour_frS F0.out (Nat.le_refl _) _ _ _ _⟩;rw[←HR.out,q.out,i.out];rfl
theorem ritem_any(l:List UInt8)(a:Nat)(w:World)(hl:l.length≤100000)(ha:a≤1000000):
 Calls Tryz.prog 164 #[.string ⟨l.toArray⟩,.int .i64 a] w fun e w'=>e=.returned (Zy2 (itm l a))∧Fr nob w w':=by
 show Zyh l a w;by_cases h1:l.length≤a
 ·exact Zzv l a w hl h1 ha
 by_cases h2:l[a]=91
 ·by_cases h3:l.length≤a+1
  ·exact ZAf l a w hl (by omega) h2 h3
  by_cases h4:ZjX l[a+1]=true
  ·unfold ZjX at h4;simp only[Bool.or_eq_true,beq_iff_eq]at h4;rcases h4 with(h4|h4)|h4
   ·exact ritem_58 l a w hl (by omega) h2 h4
   ·exact ritem_61 l a w hl (by omega) h2 h4
   ·exact ritem_46 l a w hl (by omega) h2 h4
  ·exact ritem_c l a w hl (by omega) h2 (by omega) (by simpa using h4)
 ·exact ritem_a l a w hl (by omega) h2
theorem spl_one{p:Nat→Bool}{c:Nat}(hp:∀e,e<256→p e=decide (e=c)):∀k,k≤256→spl p k=if c<k then[(c,c)]else[]
 |0,_=>by simp[spl]
 |k+1,hk=>by
  have ih:=spl_one hp k (by omega);have h1:=hp k (by omega);rw[spl,h1];by_cases hc:k=c
  ·subst hc;have ho:opn p k=false:=by
    cases k with
    |zero=>rfl
    |succ j=>rw[opn,hp j (by omega)];simp
   simp[ho,ih]
  ·rw[if_neg (by simpa using hc),ih];by_cases a:c<k
   ·rw[if_pos a,if_pos (by omega)]
   ·rw[if_neg a,if_neg (by omega)]
theorem ZAg{c:Nat}(hc:c<256):spl (spn c c).has 256=[(c,c)]:=by
 rw[spl_one (c:=c) (fun e he=> ?_) 256 (Nat.le_refl _),if_pos hc];rw[Zg3 _ _ _ hc hc he,Bool.eq_iff_iff];simp;omega
theorem Zx6(c:Nat)(w:World)(hc:c<256):
 Calls Tryz.prog 165 #[ZcR (spn c c)] w fun e w'=>e=.returned (.int .u8 c)∧Fr nob w w':=by
 have b:=ZAg hc;have a:=Zb4 c c;obtain⟨S,hS⟩:∃S,spn c c=S:=⟨_,rfl⟩;rw[hS]at b a⊢;clear hS;have h:=hid b;clear b;go_enter Tryz.func165,Tryz.ntmps165;go_wp2_with fail;refine(spansR_any S _ a).mono ?_;rintro e w2 ⟨v,rfl,ho,f,_⟩;rw[h.out]at ho;obtain⟨g,i,rfl,hg⟩:=ho.slc (by simp);have d:w2.ownsRow 0 270 2 (.slice (some ⟨g,0,none⟩) 1 i) 1 (spC [(c,c)]):=ho;have j:w2.cell? ⟨g,0,none⟩=some (.int .u8 (c:Nat)):=(d.cellAt 0 (by omega)).trans rfl;have F:=hid (((Fr.refl nob w).alloc _).trans' f);clear ho d f;simp only[List.length_singleton];go_wp2;go_ret;exact⟨rfl,F.out⟩
def Zpt(w:World)(e:Ending)(w':World):Prop:=e=.returned (.tuple #[ZcR S4.zero,.int .i64 0,.int .i64 1])∧Fr nob w w'
theorem Z9{fn:Func}{p q r:Tmp}(h:fn.results= #[.cell p 33,.tmp q,.tmp r]){tmps:Array Value}{b:Nat}(ht:tmps.getD p undef=.pointer (some ⟨b,0,none⟩)){u v:Value}(hq:tmps.getD q undef=u)(hr:tmps.getD r undef=v){W:World}{s:S4}
 (hb:W.heap[b]? =some (.cells #[.int .u64 s.a,.int .u64 s.b,.int .u64 s.c,.int .u64 s.d] 33 (0,0))):(results fn tmps).run Tryz.prog W=.ok (.tuple #[ZcR s,u,v]) W:=by
 have c0:=cell_at (j:=0) (v:=.int .u64 s.a) hb rfl;have c1:=cell_at (j:=1) (v:=.int .u64 s.b) hb rfl;have c2:=cell_at (j:=2) (v:=.int .u64 s.c) hb rfl;have c3:=cell_at (j:=3) (v:=.int .u64 s.d) hb rfl;have g:tmps[p]?.getD undef=.pointer (some ⟨b,0,none⟩):=by rw[←ht];simp
 have e:tmps[q]?.getD undef=u:=by rw[←hq];simp
 have f:tmps[r]?.getD undef=v:=by rw[←hr];simp
 simp only[results,h];simp[g,e,f,go_sem,c0,c1,c2,c3]
theorem Zkb(l:List UInt8)(a:Int)(w:World)(h:a<0∨(l.length:Int)<a):
 Calls Tryz.prog 114 #[.string ⟨l.toArray⟩,.int .i64 a] w (Zpt w):=by
 obtain⟨w0,b⟩:∃w0,w0=w.alloc (.cells #[.int .u64 0,.int .u64 0,.int .u64 0,.int .u64 0] 132):=⟨_,rfl⟩;have hz:w0.heap[w.heap.size]? =some (.cells #[.int .u64 0,.int .u64 0,.int .u64 0,.int .u64 0] 132 (0,0)):=by rw[b];exact newAt _ _
 have F:=hid (show Fr nob w w0 by rw[b];exact(Fr.refl _ _).alloc _);have rz:=Zl hz;have HZ:=hid hz;have HW:=hid b;clear hz b;by_cases h0:a<0
 ·clear h;go_enter Tryz.func114,Tryz.ntmps114
  iterate 14 go_step
  rw[←HW.out];go_wp2;(try simp only[Exit.inBlock,Exit.then]);refine bodyPost_ret (Zx (s:=S4.zero) (by rfl) (by rfl) (by rfl) (by rfl) (setFour_heap HZ.out _ _ _ _)) rfl ⟨?_,setFour_frS F.out (Nat.le_refl _) _ _ _ _⟩;rfl
 ·have h1:(l.length:Int)<a:=h.resolve_left h0;clear h;go_enter Tryz.func114,Tryz.ntmps114
  iterate 14 go_step
  rw[←HW.out];go_wp2;(try simp only[Exit.inBlock,Exit.then]);refine bodyPost_ret (Zx (s:=S4.zero) (by rfl) (by rfl) (by rfl) (by rfl) (setFour_heap HZ.out _ _ _ _)) rfl ⟨?_,setFour_frS F.out (Nat.le_refl _) _ _ _ _⟩;rfl
theorem Zzd(l:List UInt8)(a:Int)(w:World)(h:a<0∨(l.length:Int)<a):
 Calls Tryz.prog 144 #[.string ⟨l.toArray⟩,.int .i64 a] w (Zpt w):=by
 obtain⟨w0,b⟩:∃w0,w0=((w.alloc (.cells #[.int .u64 0,.int .u64 0,.int .u64 0,.int .u64 0] 33)).alloc (.cells #[.int .u64 0,.int .u64 0,.int .u64 0,.int .u64 0] 33)).alloc (.cells #[.int .u64 0,.int .u64 0,.int .u64 0,.int .u64 0] 33):=⟨_,rfl⟩;have hz:w0.heap[w.heap.size]? =some (.cells #[.int .u64 0,.int .u64 0,.int .u64 0,.int .u64 0] 33 (0,0)):=by rw[b];exact heap_alloc_lt _ (heap_alloc_lt _ (newAt _ _))
 have hn:w0.heap[w.heap.size+2]? =some (.cells #[.int .u64 0,.int .u64 0,.int .u64 0,.int .u64 0] 33 (0,0)):=by rw[b];have:=newAt ((w.alloc (.cells #[.int .u64 0,.int .u64 0,.int .u64 0,.int .u64 0] 33)).alloc (.cells #[.int .u64 0,.int .u64 0,.int .u64 0,.int .u64 0] 33)) (.cells #[.int .u64 0,.int .u64 0,.int .u64 0,.int .u64 0] 33);simpa using this
 have F:=hid (show Fr nob w w0 by rw[b];exact(((Fr.refl _ _).alloc _).alloc _).alloc _);have rz:=Zl hz;have rn:=Zl hn;have HZ:=hid hz;have HW:=hid b;clear hz b hn;by_cases h0:a<0
 ·clear h;go_enter Tryz.func144,Tryz.ntmps144
  iterate 26 go_step
  rw[←HW.out];go_wp2;(try simp only[Exit.inBlock,Exit.then]);refine bodyPost_ret (Z9 (s:=S4.zero) (by rfl) (by rfl) (by rfl) (by rfl) (setFour_heap HZ.out _ _ _ _)) rfl ⟨?_,setFour_frS F.out (Nat.le_refl _) _ _ _ _⟩;rfl
 ·have h1:(l.length:Int)<a:=h.resolve_left h0;clear h;go_enter Tryz.func144,Tryz.ntmps144
  iterate 26 go_step
  rw[←HW.out];go_wp2;(try simp only[Exit.inBlock,Exit.then]);refine bodyPost_ret (Z9 (s:=S4.zero) (by rfl) (by rfl) (by rfl) (by rfl) (setFour_heap HZ.out _ _ _ _)) rfl ⟨?_,setFour_frS F.out (Nat.le_refl _) _ _ _ _⟩;rfl
abbrev AtR(w:World)(b:Nat)(s:S4):Prop:=w.heap[b]? =some (.cells #[.int .u64 s.a,.int .u64 s.b,.int .u64 s.c,.int .u64 s.d] 33 (0,0))
def RS(l:List UInt8)(F:(Int×Nat)⊕(S4×Nat))(fst:Bool)(n k:Nat)(acc:S4):Prop:=
 if fst then acc=S4.zero∧n=l.length+2∧ZjH l (l.length+1) (prt l k)=F else lop l n k acc=F
theorem ZzO{l:List UInt8}{k:Nat}:orF S4.zero (prt l k)=prt l k:=by
 cases h:prt l k with
 |inl z=>rfl
 |inr x=>have:=(prt_next h).2.2;simp only[orF];rw[ZAc this]
theorem RS.go{l:List UInt8}{F:(Int×Nat)⊕(S4×Nat)}{fst:Bool}{m k:Nat}{acc:S4}(h:RS l F fst (m+1) k acc)(hg:fst=true∨l[k]?≠some 93):ZjH l m (orF acc (prt l k))=F:=by
 unfold RS at h;cases fst with
 |true=>
  simp only[if_true]at h;obtain⟨rfl,h1,h2⟩:=h;obtain rfl:m=l.length+1:=by omega
  rw[ZzO];exact h2
 |false=>
  rw[if_neg (by simp)]at h;rw[←h];exact(Znf (hg.resolve_left (by simp))).symm
theorem RS.halt{l:List UInt8}{F:(Int×Nat)⊕(S4×Nat)}{m k:Nat}{acc:S4}(h:RS l F false (m+1) k acc)(hg:l[k]? =some 93):F=.inr (acc,k):=by
 unfold RS at h;rw[if_neg (by simp)]at h;rw[←h];exact Zj9 hg
theorem itmN_err{l:List UInt8}{a:Nat}{k:UInt8}{z:Int×Nat}(h:itmN l a k=.inl z):z.1≠0:=by
 unfold itmN at h;split at h
 ·injection h with h;subst h;simp
 ·split at h
  ·split at h
   ·injection h with h;subst h;simp
   ·cases h
  ·split at h
   ·cases h
   ·injection h with h;subst h;simp
theorem itm_err{l:List UInt8}{a:Nat}{z:Int×Nat}(h:itm l a=.inl z):z.1≠0:=by
 unfold itm at h;split at h
 ·injection h with h;subst h;simp
 ·split at h
  ·cases h
  ·split at h
   ·exact itmN_err h
   ·cases h
theorem RS.next{l:List UInt8}{F:(Int×Nat)⊕(S4×Nat)}{m k p:Nat}{acc s:S4}(h:ZjH l m (orF acc (prt l k))=F)(hn:ZoR l m (orF acc (prt l k)))(hp:prt l k=.inr (s,p)):
 RS l F false m p (acc.or s)∧p≤l.length∧l.length<m+p:=by
 rw[hp]at h hn;refine⟨?_,hn _ rfl⟩;unfold RS;rw[if_neg (by simp)];exact h
theorem RS.bad{l:List UInt8}{F:(Int×Nat)⊕(S4×Nat)}{m k:Nat}{acc:S4}{z:Int×Nat}(h:ZjH l m (orF acc (prt l k))=F)(hp:prt l k=.inl z):F=.inl z:=by
 rw[←h,hp];rfl
theorem ZyR{l:List UInt8}{k:Nat}(h:rng l k=true):∃h:k+1<l.length,l[k]=45∧l[k+1]≠93:=by
 unfold rng at h;simp only[Bool.and_eq_true,decide_eq_true_eq,beq_iff_eq,Bool.not_eq_true',beq_eq_false_iff_ne]at h;obtain⟨⟨h1,h2⟩,h3⟩:=h;exact⟨h1,(List.getElem?_eq_some_iff.1 h2).2,fun e=>h3 (by rw[List.getElem?_eq_getElem h1,e])⟩
theorem Zzw{l:List UInt8}{k:Nat}(h:rng l k=false):l.length≤k+1∨(∃h:k+1<l.length,l[k]≠45)∨∃h:k+1<l.length,l[k]=45∧l[k+1]=93:=by
 by_cases h1:k+1<l.length
 ·by_cases h2:l[k]=45
  ·by_cases h3:l[k+1]=93
   ·exact .inr (.inr ⟨h1,h2,h3⟩)
   ·exfalso
    unfold rng at h;rw[List.getElem?_eq_getElem h1,List.getElem?_eq_getElem (by omega:k<l.length)]at h;simp[h1,h2,h3]at h
  ·exact .inr (.inl ⟨h1,h2⟩)
 ·exact .inl (by omega)
def ZAT(R:(Int×Nat)⊕(S4×Nat))(w:World)(e:Ending)(w':World):Prop:=e=.returned (Zp8 R)∧Fr nob w w'
abbrev ZyS(l:List UInt8)(w:World)(F:(Int×Nat)⊕(S4×Nat))(n:Nat)(v1 v10:Value)(wr:World):Prop:=
 ∃(k:Nat) (acc:S4) (fst:Bool),v1=.int .i64 k∧v10=.bool fst∧AtR wr (w.heap.size+1) acc∧AtR wr w.heap.size S4.zero∧AtR wr (w.heap.size+2) S4.zero∧Fr nob w wr∧acc.fit∧k≤l.length∧l.length<n+k∧RS l F fst n k acc
abbrev ZoS(l:List UInt8)(w0:World)(b r4 r9:Nat)(F:(Int×Nat)⊕(S4×Nat))(n:Nat)(wr:World):Prop:=
 ∃R s,Zdy b l 0 s R wr∧At4 wr r9 s∧At4 wr r4 S4.zero∧Fr nob w0 wr∧ZjH l n R=F∧ZoR l n R
theorem Zkc(l:List UInt8)(a:Nat)(w:World)(hl:l.length≤100000)(ha:a≤l.length)(hE:Env w):
 Calls Tryz.prog 114 #[.string ⟨l.toArray⟩,.int .i64 a] w fun e w'=>e=.returned (Zp8 (prs l a))∧Fr nob w w':=by
 obtain⟨w0,M⟩:∃w0,w0=(w.alloc (.cells #[.int .u64 0,.int .u64 0,.int .u64 0,.int .u64 0] 132)).alloc (.cells #[.string ⟨l.toArray⟩,.int .i64 a,.int .i64 0,.int .i64 0] 217):=⟨_,rfl⟩;have f0:Fr nob w w0:=by rw[M];exact((Fr.refl _ _).alloc _).alloc _
 have h7:=hE.1;have e1:w0.heap[w.heap.size]? =some (.cells #[.int .u64 0,.int .u64 0,.int .u64 0,.int .u64 0] 132 (0,0)):=by rw[M];exact heap_alloc_lt _ (newAt _ _)
 have L:Rd w0 (w.heap.size+1) l a 0 0:=by
  rw[M];unfold Rd;have:=newAt (w.alloc (.cells #[.int .u64 0,.int .u64 0,.int .u64 0,.int .u64 0] 132)) (.cells #[.string ⟨l.toArray⟩,.int .i64 a,.int .i64 0,.int .i64 0] 217);simpa using this
 have B:Zj3≤w.heap.size+1:=Env.big hE;have c9:=hE.on f0;obtain⟨b,hb⟩:∃b,w.heap.size+1=b:=⟨_,rfl⟩;rw[hb]at L B;have j6:=Zl L;have j0:(a:Int)≤l.length:=by omega
 have i9:(0:Int)≤a:=by omega
 obtain⟨d0,b0⟩:∃d,[94].isPrefixOf (l.drop a)=d:=⟨_,rfl⟩;have a8:∀w',Fr nob w0 w'→_:=fun w' f=>Zbr b l [94] a 0 0 w' (by omega) (by simp) ha (L.on f);rw[b0]at a8;have C0:=hid a8;have g5:=hid L;have g9:=hid e1;have e4:=hid f0;have e8:=hid c9;have g6:=hid M;have e7:=hid hb;have j2:w.heap.size<b:=by omega
 clear a8 L e1 f0 c9 M hE hb h7;have X:=hid b0;clear b0;go_enter Tryz.func114,Tryz.ntmps114;go_wp2_with fail;rw[←g6.out];simp only[e7.out];refine(C0.out w0 (Fr.refl _ _)).mono ?_;rintro e w1 ⟨rfl,f1⟩;have a3:=hid (g5.out.on f1);have c6:=hid (f1.heap g9.out (fun x=>x));have b6:=hid (e4.out.trans' f1);have b7:=hid (e8.out.on f1);clear f1;obtain⟨a2,j⟩:∃x,(if d0 then a+1 else a)=x:=⟨_,rfl⟩;have h5:a2≤l.length:=by
  rw[←j];split
  ·next h=>subst h;have:=(List.getElem?_eq_some_iff.1 (ZlH.1 X.out)).1;omega
  ·exact ha
 have d2:prs l a=Zex d0 (ZjH l (l.length+1) (prt l a2)):=by
  rw[←j];cases d0
  ·exact Zps X.out
  ·exact ZnR X.out
 have c0:=hid d2;have e6:=hid j;clear j d2;go_upto_if 25 with(fail)
 go_cut [] (fun w'=>Rd w' b l (a2:Nat) 0 0∧w'.heap[w.heap.size]? =some (.cells #[.int .u64 0,.int .u64 0,.int .u64 0,.int .u64 0] 132 (0,0))∧Fr nob w w'∧Env w')
 case first=>
  have j:=e6.out;cases d0
  ·rw[if_neg (by decide)]at j;subst j;go_wp2;go_meet
   case rel=>exact⟨a3.out,c6.out,b6.out,b7.out⟩
  ·rw[if_pos rfl]at j;subst j;have j7:=Zl a3.out;go_wp2;go_meet
   case rel=>exact⟨by rw[show((a+1:Nat):Int)=(a:Int)+1 by omega];exact Za a3.out 1 _,Zc c6.out (by simp only;omega) _,Fr.setCell (p:=⟨b,1,none⟩) b6.out (fun h=>absurd h (by simp only;omega)) _,b7.out.on2 (Fr.setCell (S:=fun k=>k=b) (p:=⟨b,1,none⟩) (Fr.refl _ _) (fun _=>rfl) _) B⟩
 case rest=>
 obtain⟨d9,e2,c7,d5⟩:=hcut;have c4:=hid d9;have h0:=hid e2;have e5:=hid c7;have b8:=hid d5;clear d9 e2 c7 d5;go_wp2_with fail;refine(part_any b l a2 0 wc hl h5 B b8.out c4.out).mono ?_;rintro e w3 ⟨s,rfl,hs,f3,u⟩;have b4:=f3.heap h0.out (fun e=>by omega);obtain⟨w4,U⟩:∃w4,w4=w3.alloc (.cells #[.int .u64 s.a,.int .u64 s.b,.int .u64 s.c,.int .u64 s.d] 132):=⟨_,rfl⟩;have I:Fr nob w3 w4:=by rw[U];exact(Fr.refl _ _).alloc _
 have d4:=lt_heap c4.out;have e3:=I.heap b4 (fun x=>x);have i5:=lt_heap b4;obtain⟨r9,Q⟩:∃r,w3.heap.size=r:=⟨_,rfl⟩;have c8:At4 w4 r9 s:=by rw[U,←Q];exact newAt _ _
 have j1:b<r9:=by rw[←Q];exact Nat.lt_of_lt_of_le d4 f3.size
 have F4:=hid ((e5.out.trans f3 (fun i hi e=>by omega)).trans' I);have e9:=hid ((b8.out.on2 f3 B).on I);have J:=u.to (w':=w4) (fun x r q h=>h.on I);have hF:=c0.out;have d3:ZoR l (l.length+1) (prt l a2):=fun x hx=>by
  have:=prt_next hx;exact⟨this.2.1,by omega⟩
 obtain⟨F,a7⟩:∃F,ZjH l (l.length+1) (prt l a2)=F:=⟨_,rfl⟩;rw[a7]at hF;have HF:=hid hF;have g7:=hid U;have HI:=hid (show ZoS l w b w.heap.size r9 F (l.length+1) w4 from⟨_,s,J,c8,e3,F4.out,a7,d3⟩);have H9:=hid Q;clear b4 U I e3 c8 u J hF d3 a7 Q hs f3;go_wp2_with fail;rw[←g7.out];simp only[H9.out]
 go_loopg [] (l.length+1) (fun n wr=>ZoS l w b w.heap.size r9 F n wr∧Env wr)
 case atStart=>exact⟨HI.out,e9.out⟩
 case round=>
  obtain⟨⟨R,o,u,h9,hz,d7,hF,hN⟩,d1⟩:=hrel;have rz:=Zl hz;have i2:=Zl h9;have E:=hid u;have HZ:=hid hz;have a1:=hid h9;have a0:=hid d7;have f8:=hid d1;clear u hz h9 d7 d1;have Z:=hid hF;clear hF;cases R with
  |inl z=>
   obtain⟨a',h1,h2,h3⟩:=E.out;have rr:=Zl h3;have t1:(z.1==0)=false:=by simpa using h2
   have t2:(z.1 !=0)=true:=by simpa using h2
   have g1:=hid (Z.out.symm:F=.inl z);have O:=hid h3;clear h1 h2 h3 hN;have C:w.heap.size≠b:=by omega
   have HQ:=hid (show RQ wr b (.int .i64 z.1) (.int .i64 z.2)from⟨cell_at O.out rfl,cell_at O.out rfl⟩);have g4:=hid (show RQ wr.drew b (.int .i64 z.1) (.int .i64 z.2)from⟨cell_at O.out rfl,cell_at O.out rfl⟩);have a5:=hid (show At4 wr.drew w.heap.size S4.zero from HZ.out);have W:=hid a0.out.drew;go_wp2_with fail
   go_region_held3 (fun w'=>RQ w' b (.int .i64 z.1) (.int .i64 z.2)) (repeat(first|(with_reducible exact HQ.out)|(with_reducible exact g4.out)|(with_reducible refine RQ.set ?_ C _)|(with_reducible refine RQ.drew ?_))) (fail)
   all_goals
    go_wp2;(try simp only[Exit.inBlock,Exit.then]);refine bodyPost_ret (Zx (s:=S4.zero) rfl rfl rfl rfl (setFour_heap a5.out _ _ _ _)) rfl ⟨?_,setFour_frS W.out (Nat.le_refl _) _ _ _ _⟩;rw[HF.out,g1.out];cases d0<;>rfl
  |inr x=>
   obtain⟨o1,n0⟩:=x;obtain⟨e0,h3⟩:=E.out;simp only at e0;subst e0;obtain⟨b1,h6⟩:=hN _ rfl;simp only at b1 h6 h3 i2;obtain⟨m,rfl⟩:∃m,gk=m+1:=⟨gk-1,by omega⟩;have rr:=Zl h3;have j3:(n0:Int)≤l.length:=by omega
   have i6:(0:Int)≤n0:=by omega
   have j5:IntKind.i64.wrap ((n0:Int)+1)=(n0:Int)+1:=IntWalk.i64_in _ (by omega);obtain⟨D,hD⟩:∃d,[93].isPrefixOf (l.drop n0)=d:=⟨_,rfl⟩;have a9:=Zbr b l [93] n0 0 0 wr (by omega) (by simp) b1 h3;rw[hD]at a9;have C1:=hid a9;have HR:=hid h3;have HD:=hid hD;clear a9 h3 hD hN E;cases D with
   |true=>
    have g0:=hid (show F=.inr (o,n0) by rw[←Z.out];exact Zj9 (ZlH.1 HD.out));go_wp2_with fail;refine C1.out.mono ?_;rintro e w5 ⟨rfl,f5⟩;have H:=hid (HR.out.on f5);have P:=hid (f5.heap HZ.out (fun x=>x));have v:=hid (f5.heap a1.out (fun x=>x));have F5:=hid (a0.out.trans' f5);obtain⟨N,g⟩:∃N,(if d0 then o.not else o)=N:=⟨_,rfl⟩;have c1:=hid g;clear g;have i3:=Zl H.out;have h8:=Zl v.out;go_upto_block 2 with(fail)
    go_cut [] (fun w'=>Rd w' b l n0 0 0∧At4 w' r9 N∧At4 w' w.heap.size S4.zero∧Fr nob w w')
    case first=>
     have g:=c1.out;cases d0
     ·rw[if_neg (by decide)]at g;subst g;go_wp2;go_meet
      case rel=>exact⟨H.out,v.out,P.out,F5.out⟩
     ·rw[if_pos rfl]at g;go_wp2_with fail;refine(not_lit o w5).mono ?_;rw[g];rintro e w6 ⟨rfl,f6⟩;have y:=hid (f6.heap v.out (fun x=>x));have i0:=Zl y.out;go_wp2;go_meet
      case rel=>exact⟨Zy (H.out.on f6) (by omega) _ _ _ _,setFour_heap y.out _ _ _ _,Zy (f6.heap P.out (fun x=>x)) (by omega) _ _ _ _,setFour_frS (F5.out.trans' f6) (by omega) _ _ _ _⟩
    case rest=>
    obtain⟨b2,a6,b5,f7⟩:=hcut;have F7:=hid f7;clear f7 i3 h8;have j8:=Zl b2;have i1:=Zl a6;have j9:=Zl b5;have a4:=hid b5;have c5:=hid b2;have A:=hid a6;clear b2 a6 b5;have C:w.heap.size≠b:=by omega
    have d8:w.heap.size≠r9:=by omega
    have c2:=hid (show RA wc b (.int .i64 n0) r9 N from⟨cell_at c5.out rfl,Q4.of A.out⟩);have c3:=hid (show RA (World.drew wc) b (.int .i64 n0) r9 N from⟨cell_at c5.out rfl,Q4.of A.out⟩);have a5:=hid (show At4 (World.drew wc) w.heap.size S4.zero from a4.out);have W:=hid (Fr.drew F7.out);go_wp2_with fail
    go_region_held3 (fun w'=>RA w' b (.int .i64 n0) r9 N) (repeat(first|(with_reducible exact c2.out)|(with_reducible exact c3.out)|(with_reducible refine RA.set ?_ C d8 _)|(with_reducible refine RA.drew ?_))) (fail)
    all_goals
     go_wp2;(try simp only[Exit.inBlock,Exit.then]);refine bodyPost_ret (Zx (s:=N) rfl rfl rfl rfl (setFour_heap a5.out _ _ _ _)) rfl ⟨?_,setFour_frS W.out (Nat.le_refl _) _ _ _ _⟩;rw[HF.out,g0.out,←c1.out];cases d0<;>rfl
   |false=>
    have C:l[n0]?≠some 93:=fun e=>by rw[ZlH.2 e]at HD;exact absurd HD.out (by simp)
    have f9:=hid (show ZjH l m (orF o (prt l n0))=F by rw[←Z.out];exact(Znf C).symm);have g3:=hid (show ZoR l m (orF o (prt l n0))from Zka (by omega));clear C;go_wp2_with fail;refine C1.out.mono ?_;rintro e w5 ⟨rfl,f5⟩;have H:=hid (HR.out.on f5.drew);have P:=hid (f5.drew.heap HZ.out (fun x=>x));have v:=hid (f5.drew.heap a1.out (fun x=>x));have F5:=hid (a0.out.trans' f5.drew);have b9:=hid (f8.out.on f5.drew);have i7:=hid (Q4.of (f5.heap a1.out (fun x=>x)));have i4:=hid (Q4.of v.out);go_wp2_with fail
    go_region_with (first|(go_at_call 140;(refine(part_any b l n0 0 w5.drew hl b1 B b9.out H.out).mono ?_);rintro e w6 ⟨s',rfl,j4,f6,K⟩;have y:=hid (f6.heap v.out (fun e=>by omega));have i8:=hid (Q4.of y.out);have h4:=hid (f6.heap P.out (fun e=>by omega));have f2:=hid (b9.out.on2 f6 B);have F6:=hid (F5.out.trans f6 (fun i hi e=>by omega));have G:=hid (K.or (t:=o));have i0:=Zl y.out;clear f6 K)|(go_at_call 141;(refine(ZfK o s' w6).mono ?_);obtain⟨N,g⟩:∃N,o.or s'=N:=⟨_,rfl⟩;rw[g]at G⊢;rintro e w7 ⟨rfl,f7⟩;have A:=hid (f7.heap y.out (fun x=>x));have c2:=hid (Q4.of A.out);have a4:=hid (f7.heap h4.out (fun x=>x));have f4:=hid (f2.out.on f7);have F7:=hid (F6.out.trans' f7);have Y:=hid (G.out.to (w':=w7) (fun x r q h=>h.on f7));have i1:=Zl A.out;clear f7))
    all_goals
     have V:=f9.out;have d6:=g3.out;obtain⟨w8,b3⟩:∃w8,w8=(((w7.setCell ⟨r9,0,none⟩ (.int .u64 N.a)).setCell ⟨r9,1,none⟩ (.int .u64 N.b)).setCell ⟨r9,2,none⟩ (.int .u64 N.c)).setCell ⟨r9,3,none⟩ (.int .u64 N.d):=⟨_,rfl⟩;have g2:=hid (show ZoS l w b w.heap.size r9 F m w8∧Env w8 by
      rw[b3];refine⟨⟨_,N,Y.out.to (fun x r q h=>Zy h (by omega) _ _ _ _),setFour_heap A.out _ _ _ _,Zy a4.out (by omega) _ _ _ _,setFour_frS F7.out (by omega) _ _ _ _,V,d6⟩,f4.out.on2 (ZS _ _ _ _ _ _) (by omega)⟩)
     have g8:=hid b3;clear b3 V d6;go_wp2_with fail;rw[←g8.out];go_roundg m
     case measure=>omega
     case rel=>exact g2.out
end Go.Proofs.YtgllcniibbaoaaaGreatDoor
