/- Lemmas of this claim. -/
import Derived.Test.YtkfddjopbocpkaaGreatDoorN36
set_option linter.unusedVariables false
set_option linter.unusedSimpArgs false
set_option maxRecDepth 100000
set_option maxHeartbeats 4000000
namespace Go.Proofs.YtkfddjopbocpkaaGreatDoor
open Go.Lib (hid)
open Go.RowKit
def ZsU(cs:List CV):List UInt8:=cs.flatMap ZuJ
def Zu8(q:Bool)(cs:List CV):List UInt8:=(if q then[35,110,10]else[])++ZsU cs
theorem Ztu{l:List CV}{k:Nat}(h:k<l.length):ZsU (l.take (k+1))=ZsU (l.take k)++ZuJ l[k]:=by
 unfold ZsU;rw[List.take_succ_eq_append_getElem h,List.flatMap_append];simp
attribute [-go_sem] storeVar
theorem ZuM(q:Bool)(cs:List CV)(cv:Value)(w:World)(hE:Env w)(hP:P10 w)(hT:Zwa w)(hg:∀c∈cs,CvOk c)(hl:cs.length≤100000)(hle:∀k,(ZsU (cs.take k)).length≤900000000)(hv:Zdw nob w cs cv):
 Calls Tryz.prog 27 #[.agg #[.bool q,cv]] w fun e w'=>e=.returned (.string ⟨(Zu8 q cs).toArray⟩)∧Fr nob w w':=by
 obtain⟨ca,cc,rfl⟩:=hv.shape;obtain⟨A,hA⟩:∃A,(if q then[(35:UInt8),110,10]else[])=A:=⟨_,rfl⟩;unfold Zu8;rw[hA];obtain⟨w1,a⟩:∃w1,w1=w.alloc (.cells #[.bool q,.slice ca cs.length cc] 50):=⟨_,rfl⟩;have t:w1.heap[w.heap.size]? =some (.cells #[.bool q,.slice ca cs.length cc] 50 (0,0)):=by rw[a];exact newAt _ _
 have f1:Fr nob w w1:=by rw[a];exact(Fr.refl _ _).alloc _
 have o:w1.heap.size=w.heap.size+1:=by rw[a];simp
 obtain⟨w2,b⟩:∃w2,w2=w1.alloc (.cells #[.pointer none,.slice none 0 0] 107):=⟨_,rfl⟩;have f2:Fr nob w1 w2:=by rw[b];exact(Fr.refl _ _).alloc _
 have hb:=f2.heap t (fun x=>x);have hB:PxB w1.heap.size [] none w2:=by rw[b];exact PxB.new w1
 have hX:PxW w (fun k=>k=w.heap.size) w1.heap.size [] w2:=⟨f1.trans' f2,none,hB,fun k x=>by
  have:=f2.size;rcases x with x|x
  ·exact⟨by omega,by simp,by omega⟩
  ·exact⟨by omega,by simp,by omega⟩⟩
 rw[o]at hX;have r0:=Zqy hb w2 (Fr.refl _ _);have I:=hid a;have J:=hid b;have G:=hid o;have HB:=hid hb;have HX:=hid hX;have s:=hid hA;have B:=hid hv;have HE:=hid hE;have HP:=hid hP;have HT:=hid hT;have HG:=hid hg;have E:=hid hle;clear a b o f1 f2 hb t hB hX hA hE hP hT hg hle hv;go_enter Tryz.func27,Tryz.ntmps27;go_upto_if 7 with(first|rw[←I.out]|rw[G.out]|rw[←J.out])
 go_cut [] (fun w'=>PxW w (fun k=>k=w.heap.size) (w.heap.size+1) A w'∧Fr (Pxn w (fun k=>k=w.heap.size)) w2 w')
 case first=>
  have hA:=s.out;cases q
  ·rw[if_neg (by decide)]at hA;go_wp2;go_meet
   case rel=>exact⟨by rw[←hA];exact HX.out,Fr.refl _ _⟩
  ·rw[if_pos rfl]at hA;have R:A.length≤3:=by rw[←hA];simp
   go_wp2_with fail;refine(px_str A HX.out (by simp only[List.length_nil];omega)).mono ?_;rintro e w3 ⟨rfl,h3,f3⟩;go_wp2;go_meet
   case rel=>exact⟨by rw[List.nil_append]at h3;exact h3,f3⟩
 case rest=>
  obtain⟨h3,f3⟩:=hcut;have la:A.length≤3:=by rw[←s.out];split<;>simp
  have r3:=Zqy (f3.heap HB.out (fun x=>x (.inr rfl))) wc (Fr.refl _ _);have H3:=hid h3;clear h3 f3 r0;go_wp2_with fail
  go_loopw [13] (fun i wr=>∃k:Nat,i=.int .i64 k∧k≤cs.length∧PxW w (fun k=>k=w.heap.size) (w.heap.size+1) (A++ZsU (cs.take k)) wr) (fun i _=>cs.length-(intOf i).toNat)
  case atStart=>exact⟨0,rfl,Nat.zero_le _,by simpa[ZsU]using H3.out⟩
  case round=>
   obtain⟨k,rfl,hk,tx⟩:=hrel;have HR:=hid tx;clear tx r3;by_cases n:k<cs.length
   ·obtain⟨g,Q,r,e,S,hr,m,u⟩:=B.out.get n;injection e with e1 _ e2;subst e1;subst e2;have f:wr.rangeAt g (k*20) r.toList:=fun j v hj=>HR.out.fr.cell (u j v hj) (fun x=>x);obtain⟨ks,pa,pc,e3,O,d,_,_,y⟩:=m.opened;injection e3 with e3;subst e3;obtain⟨w4,p⟩:∃w4,w4=(wr.alloc (.cells zC 35)).setRow wr.heap.size r:=⟨_,rfl⟩;obtain⟨h,f4,_⟩:=ZaM wr zC r 35;rw[←p]at h f4;have K:=hid p;have z:=hid h;have F:=hid f;have HI:=hid (show(Tryz.prog.info? 35).map (·.size)=some r.size by rw[hr];exact info_C);have C:=hid (show(Tryz.prog.info? 35).map (·.size)=some r.toList.length by rw[Array.length_toList,hr];exact info_C);have HZ:=hid (show zC.size=r.size by rw[hr];rfl);have HO:=hid d;have M:=E.out k;have HN:=hid (Ztt cs[k] (.agg r) HE.out HP.out HT.out (HG.out _ (List.getElem_mem n)) m (HR.out.quiet f4) (by rw[List.length_append];omega))
    have H:=hid (Ztu n);have P:(k:Int)<cs.length:=by omega
    clear u f m d y p f4 h hr O M;go_wp2_with(first|(refine wpList_load_mid rfl 35 _ rfl g (k*20) ?_ r.toList _ F.out Tryz.underlying35 rfl C.out ?_)|refine wpList_store_row rfl 35 _ _ rfl wr.heap.size r rfl rfl 35 _ (newAt _ _) HI.out HZ.out HO.out ?_|rw[←K.out]|refine wpList_load_row rfl 35 _ rfl wr.heap.size rfl 35 r (0,0) _ z.out Tryz.underlying35 rfl HI.out ?_);refine HN.out.mono ?_;rintro e w5 ⟨rfl,h5,f5⟩;rw[List.append_assoc,←H.out]at h5;have H5:=hid h5;clear h5 f5;go_wp2;go_roundw
    case rel=>exact⟨k+1,by go_num,by omega,H5.out⟩
    case measure=>simp[intOf];omega
   ·obtain rfl:k=cs.length:=by omega
    have hT:=List.take_of_length_le (l:=cs) (Nat.le_refl _);rw[hT]at HR;obtain⟨D,hD⟩:∃D,ZsU cs=D:=⟨_,rfl⟩;rw[hD]at HR;have HD:=hid hD;clear hT hD;obtain⟨gg,⟨cl,hb,L⟩,hk⟩:=HR.out.tx;have N:=hid (Zev _ (w.heap.size+1) 0 cl (A++D) gg wr hb);have HG:=hid (show∀i,i<w.heap.size→some i≠gg from fun i hi=>(hk i (.inl hi)).2.1);clear hb L hk;go_wp2_with fail;refine N.out.mono ?_;rintro e w4 ⟨rfl,f4⟩;have F4:=hid (HR.out.fr.trans f4 (fun i hi x=>(HG.out i hi x).elim));clear f4;go_wp2;go_ret;exact⟨by rw[HD.out];rfl,F4.out⟩
end Go.Proofs.YtkfddjopbocpkaaGreatDoor
