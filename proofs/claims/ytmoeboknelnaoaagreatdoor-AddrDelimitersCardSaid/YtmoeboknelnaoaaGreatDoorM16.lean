/-
  Merged texts of this claim: BreK, BreM, RdQ, EreP.
-/
import Derived.Test.YtmoeboknelnaoaaGreatDoorM11
import Derived.Test.YtmoeboknelnaoaaGreatDoorM12
import Derived.Test.YtmoeboknelnaoaaGreatDoorM15

/-
  Walk of package bre: atom.
-/
namespace Go.Proofs.YtmoeboknelnaoaaGreatDoor
open Go.RowKit

abbrev CC2 (w : World) (b : Nat) (v0 v1 : Value) : Prop := w.cell? ⟨b, 0, none⟩ = some v0 ∧ w.cell? ⟨b, 1, none⟩ = some v1
theorem cc2_on {w w' : World} {b : Nat} {v0 v1 : Value} (h : CC2 w b v0 v1) (f : Fr nob w w') : CC2 w' b v0 v1 := ⟨f.cell h.1 (fun x => x), f.cell h.2 (fun x => x)⟩

set_option maxRecDepth 100000 in
set_option maxHeartbeats 1000000 in
theorem br_atom (b : Nat) (l : List UInt8) (W0 : World) (deep : Nat) (C : Option (RxS → Out Nd)) (s : RxS) (S O : Nat → Prop) (w : World) (x : UInt8) (hO : ∀ k, O k → k < w.heap.size) (hl : l.length ≤ 100000) (hd : deep ≤ 12) (hE0 : Env W0) (hG : GrAt l W0 deep C)
    (hs : Sane l s) (ha : s.at_ < l.length) (hx : l[s.at_] = x) (hW : Wd W0 S w) (h : Rdg b l s S w) :
    Calls Tryz.prog 129 #[.pointer (some ⟨b, 0, none⟩), .int .i64 deep] w fun y w' => OutAns4 b l S O w (atomS prg l C s x) y w' := by
  obtain ⟨R, hR⟩ : ∃ R, atomS prg l C s x = R := ⟨_, rfl⟩
  rw [hR]
  have hEsc := fun w' (f : Fr nob w w') (h92 : x = 92) => br_escape b l W0 deep C s S O w' (fun k hk => Nat.lt_of_lt_of_le (hO k hk) f.size) hl hd hG hs ha (by rw [hx, h92]) (hW.stp (Stp.of f)) (h.on f)
  obtain ⟨cv, mv, hB⟩ := h
  have rr := rule5 hB.blk
  have HEsc := Lib.hid hEsc; have HB := Lib.hid hB; have HW := Lib.hid hW
  have hal : (s.at_ : Int) < l.length := by omega
  have hxb := x.toNat_lt
  clear hEsc hG hs hW hB hd hO
  go_enter Tryz.func129, Tryz.ntmps129
  go_wp2_with fail
  refine region_fr 8 (by kernel_rfl) (by kernel_rfl) ?_
  simp only [List.take_succ_cons, List.take_zero, List.drop_succ_cons, List.drop_zero]
  repeat (quiet_step (fail))
  refine wpQuiet_nil ?_
  intro wC fC
  have hBC := HB.out.on fC
  obtain ⟨⟨k0, k1, _⟩, _, j1, _⟩ := rule5 hBC.blk _ (Fr.refl _ _)
  have HBC := Lib.hid hBC; have FC := Lib.hid fC
  clear rr hBC fC
  unfold atomS at hR
  by_cases h92 : x = 92
  · rw [if_pos h92] at hR
    have HE := Lib.hid (HEsc.out wC FC.out h92)
    have t1 : ((x.toNat : Int) == 92) = true := tb_eq (b := 92) h92
    rw [hR] at HE
    clear h92 hR
    go_wp2_with fail
    with_reducible refine (HE.out).mono ?_
    cases R with
    | inl z =>
      obtain ⟨z1, z2⟩ := z
      rintro e w2 ⟨rfl, S2, st2⟩
      exact ⟨rfl, rfl, S2, (Stp.of FC.out).trans st2⟩
    | inr z =>
      obtain ⟨t, s2⟩ := z
      rintro e w2 ⟨i, y, S2, rfl, rn2, r2, st2⟩
      have RN2 := Lib.hid rn2; have R2 := Lib.hid r2; have ST2 := Lib.hid ((Stp.of FC.out).trans st2); clear rn2 r2 st2
      go_wp2
      go_ret
      exact ⟨_, _, S2, rfl, RN2.out, R2.out, ST2.out⟩
  · rw [if_neg h92] at hR
    have t1 : ((x.toNat : Int) == 92) = false := tb_ne (b := 92) h92
    by_cases h91 : x = 91
    · rw [if_pos h91] at hR
      have t2 : ((x.toNat : Int) == 91) = true := tb_eq (b := 91) h91
      have hEnv : ∀ w', Fr nob wC w' → Env w' := fun w' f => hE0.on ((HW.out.fr.trans' FC.out).trans' f)
      have hP := fun w' (f : Fr nob wC w') => parse_all l ((s.at_ : Int) + 1) w' hl (hEnv w' f)
      rw [show ((s.at_ : Int) + 1) = ((s.at_ + 1 : Nat) : Int) from by simp, prz_in (by omega)] at hP
      rw [show ((s.at_ + 1 : Nat) : Int) = (s.at_ : Int) + 1 from by simp] at hP
      have hw : IntKind.i64.wrap ((s.at_ : Int) + 1) = s.at_ + 1 := IntWalk.i64_in _ (by omega)
      have hcc : CC2 wC b (.string ⟨l.toArray⟩) (.int .i64 s.at_) := ⟨k0, k1⟩
      have HC := Lib.hid hcc
      obtain ⟨P, hPP⟩ : ∃ P, prs l (s.at_ + 1) = P := ⟨_, rfl⟩
      rw [hPP] at hP hR
      obtain ⟨c, k, e0, hv, hcase⟩ : ∃ (c : S4) (k : Nat) (e0 : Int), prsV P = .tuple #[setV c, .int .i64 k, .int .i64 e0] ∧ ((e0 ≠ 0 ∧ R = .inl (e0, k)) ∨ (e0 = 0 ∧ R = .inr (.one c, s.to k))) := by
        cases P with
        | inl z => obtain ⟨z1, z2⟩ := z; exact ⟨S4.zero, z2, z1, rfl, .inl ⟨prs_err hPP, hR.symm⟩⟩
        | inr q => obtain ⟨c, k⟩ := q; exact ⟨c, k, 0, rfl, .inr ⟨rfl, hR.symm⟩⟩
      rw [hv] at hP
      have HP := Lib.hid hP; have HCS := Lib.hid hcase
      have rzA := rule4 (show (wC.alloc (.cells #[.int .u64 0, .int .u64 0, .int .u64 0, .int .u64 0] 91)).heap[wC.heap.size]? = some (.cells #[.int .u64 0, .int .u64 0, .int .u64 0, .int .u64 0] 91) from newAt0 wC _)
      have RZA := Lib.hid rzA
      clear hP hEnv k0 k1 j1 h91 h92 HEsc hcc hPP rzA hv hcase hR
      go_wp2_with fail
      go_region_held3 (fun w' => CC2 w' b (.string ⟨l.toArray⟩) (.int .i64 s.at_)) (first | (with_reducible exact HC.out) | (with_reducible exact cc2_on HC.out ((Fr.refl nob wC).drew)) | (with_reducible exact cc2_on HC.out (((Fr.refl nob wC).alloc _).drew)) | (with_reducible exact cc2_on HC.out (((Fr.refl nob wC).drew).alloc _)) | (with_reducible exact cc2_on HC.out G1) | (with_reducible exact cc2_on HC.out (G1.drew)) | (with_reducible exact cc2_on HC.out (G1.alloc _)) | (with_reducible exact cc2_on HC.out (setFour_frS G1 (Nat.le_refl _) _ _ _ _)) | (with_reducible exact cc2_on HC.out (setFour_frS (G1.alloc _) G1.size _ _ _ _)) | (trace_state; fail)) (first | (go_at_call 144; (first | ((with_reducible refine (HP.out _ ((Fr.refl nob wC).drew)).mono ?_); rintro e g1 ⟨rfl, f1⟩; have G1 : Fr nob wC g1 := ((Fr.refl nob wC).drew).trans' f1; have hz := newAt0 g1 (.cells #[.int .u64 0, .int .u64 0, .int .u64 0, .int .u64 0] 91); have HZ := Lib.hid hz; have rz := rule4 hz _ (Fr.refl nob _)) | ((with_reducible refine (HP.out _ (((Fr.refl nob wC).alloc _).drew)).mono ?_); rintro e g1 ⟨rfl, f1⟩; have G1 : Fr nob wC g1 := (((Fr.refl nob wC).alloc _).drew).trans' f1; have hz := (((Fr.refl nob _).drew).trans' f1).heap (newAt0 wC (.cells #[.int .u64 0, .int .u64 0, .int .u64 0, .int .u64 0] 91)) (fun x => x); have HZ := Lib.hid hz; have rz := RZA.out g1 (((Fr.refl nob _).drew).trans' f1))); clear f1 hz))
      · obtain ⟨wf, hwf⟩ : ∃ wf, wf = g1.alloc (.cells #[.int .u64 c.a, .int .u64 c.b, .int .u64 c.c, .int .u64 c.d] 91) := ⟨_, rfl⟩
        have hset : At4 wf g1.heap.size c := by rw [hwf]; exact newAt0 g1 _
        have hfr : Fr nob wC wf := by rw [hwf]; exact G1.alloc _
        rw [← hwf]
        have HF := Lib.hid hfr; have HSET := Lib.hid hset; have hge : wC.heap.size ≤ g1.heap.size := (G1.size)
        clear hwf hfr hset rz
        rcases HCS.out with ⟨hne, hR⟩ | ⟨hne, hR⟩
        · subst hR
          have hz' : ((e0 : Int) != 0) = true := by simpa using hne
          go_wp2_with (go_at_call 126; (with_reducible refine (br_fail e0 k _).mono ?_); rintro e w' ⟨rfl, rfl⟩)
          exact ⟨rfl, rfl, S, (Stp.of FC.out).trans (Stp.of HF.out)⟩
        · subst hR
          subst hne
          have hBf := HBC.out.on HF.out
          have hbl := lt_heap HBC.out.blk
          have hcl := lt_heap HSET.out
          have hnb : g1.heap.size ≠ b := by omega
          obtain ⟨⟨_, n1, _⟩, _, n2, _⟩ := rule5 hBf.blk _ (Fr.refl _ _)
          have HBf := Lib.hid hBf; clear hBf
          have hq6 : Q4 (wf.setCell ⟨b, 1, none⟩ (.int .i64 (k : Nat))) g1.heap.size c := by
            have g := (Fr.refl (fun i => i = b) wf).setCell (p := ⟨b, 1, none⟩) (fun _ => rfl) (.int .i64 (k : Nat))
            have q := Q4.of HSET.out
            exact ⟨g.cell q.1 hnb, g.cell q.2.1 hnb, g.cell q.2.2.1 hnb, g.cell q.2.2.2 hnb⟩
          go_wp2
          go_ret
          exact ⟨_, _, S, rfl, by rw [RN]; rfl, ⟨_, _, HBf.out.turned 1 _ (s.to k) (by simp [RxS.to]) rfl rfl⟩, ((Stp.of FC.out).trans (Stp.of HF.out)).trans (HBf.out.stp 1 _)⟩
      · obtain ⟨wf, hwf⟩ : ∃ wf, wf = ((((g1.setCell ⟨wC.heap.size, 0, none⟩ (.int .u64 c.a)).setCell ⟨wC.heap.size, 1, none⟩ (.int .u64 c.b)).setCell ⟨wC.heap.size, 2, none⟩ (.int .u64 c.c)).setCell ⟨wC.heap.size, 3, none⟩ (.int .u64 c.d)) := ⟨_, rfl⟩
        have hset : At4 wf wC.heap.size c := by rw [hwf]; with_reducible exact setFour_heap HZ.out _ _ _ _
        have hfr : Fr nob wC wf := by rw [hwf]; exact setFour_frS (G1) (Nat.le_refl _) _ _ _ _
        rw [← hwf]
        have HF := Lib.hid hfr; have HSET := Lib.hid hset; have hge : wC.heap.size ≤ wC.heap.size := (Nat.le_refl _)
        clear hwf hfr hset rz
        rcases HCS.out with ⟨hne, hR⟩ | ⟨hne, hR⟩
        · subst hR
          have hz' : ((e0 : Int) != 0) = true := by simpa using hne
          go_wp2_with (go_at_call 126; (with_reducible refine (br_fail e0 k _).mono ?_); rintro e w' ⟨rfl, rfl⟩)
          exact ⟨rfl, rfl, S, (Stp.of FC.out).trans (Stp.of HF.out)⟩
        · subst hR
          subst hne
          have hBf := HBC.out.on HF.out
          have hbl := lt_heap HBC.out.blk
          have hcl := lt_heap HSET.out
          have hnb : wC.heap.size ≠ b := by omega
          obtain ⟨⟨_, n1, _⟩, _, n2, _⟩ := rule5 hBf.blk _ (Fr.refl _ _)
          have HBf := Lib.hid hBf; clear hBf
          have hq6 : Q4 (wf.setCell ⟨b, 1, none⟩ (.int .i64 (k : Nat))) wC.heap.size c := by
            have g := (Fr.refl (fun i => i = b) wf).setCell (p := ⟨b, 1, none⟩) (fun _ => rfl) (.int .i64 (k : Nat))
            have q := Q4.of HSET.out
            exact ⟨g.cell q.1 hnb, g.cell q.2.1 hnb, g.cell q.2.2.1 hnb, g.cell q.2.2.2 hnb⟩
          go_wp2
          go_ret
          exact ⟨_, _, S, rfl, by rw [RN]; rfl, ⟨_, _, HBf.out.turned 1 _ (s.to k) (by simp [RxS.to]) rfl rfl⟩, ((Stp.of FC.out).trans (Stp.of HF.out)).trans (HBf.out.stp 1 _)⟩
    · rw [if_neg h91] at hR
      have t2 : ((x.toNat : Int) == 91) = false := tb_ne (b := 91) h91
      obtain ⟨w1, hw1⟩ : ∃ w1, w1 = wC.setCell ⟨b, 1, none⟩ (.int .i64 ((s.at_ : Int) + 1)) := ⟨_, rfl⟩
      have hB1 : Br b l (s.go 1) S cv mv w1 := by rw [hw1]; exact HBC.out.turned 1 _ (s.go 1) (by simp [RxS.go]) rfl rfl
      have hS1 : Stp S w S w1 := by rw [hw1]; exact (Stp.of FC.out).trans (HBC.out.stp 1 _)
      have hsz : w1.heap.size = wC.heap.size := by rw [hw1]; simp [World.setCell]
      have HW1 := Lib.hid hw1; have HB1 := Lib.hid hB1; have HS1 := Lib.hid hS1
      clear hw1 hB1 hS1 h92 h91 HEsc
      by_cases h46 : x = 46
      · rw [if_pos h46] at hR
        have t3 : ((x.toNat : Int) == 46) = true := tb_eq (b := 46) h46
        have hsp := span_lit 0 255 w1 (by decide) (by decide)
        rw [show ((0 : Nat) : Int) = 0 from rfl, show ((255 : Nat) : Int) = 255 from rfl] at hsp
        obtain ⟨u, hu⟩ : ∃ u, spn 0 255 = u := ⟨_, rfl⟩
        rw [hu] at hsp hR
        subst hR
        have HSP := Lib.hid hsp
        clear h46 hsp hu
        go_wp2_with (rw [← HW1.out])
        with_reducible refine (HSP.out).mono ?_
        rintro e w2 ⟨rfl, f2⟩
        have F2 := Lib.hid f2; clear f2
        go_wp2
        go_ret
        exact ⟨_, _, S, rfl, by unfold prg; rw [RN]; rfl, ⟨_, _, HB1.out.on F2.out⟩, HS1.out.trans (Stp.of F2.out)⟩
      · rw [if_neg h46] at hR
        have t3 : ((x.toNat : Int) == 46) = false := tb_ne (b := 46) h46
        have ho := of_one x w1 5
        obtain ⟨u, hu⟩ : ∃ u, spn x.toNat x.toNat = u := ⟨_, rfl⟩
        rw [hu, hsz] at ho
        rw [hu] at hR
        subst hR
        have HO := Lib.hid ho
        clear h46 ho hu
        go_wp2_with (rw [← HW1.out])
        with_reducible refine (HO.out).mono ?_
        rintro e w2 ⟨rfl, f2⟩
        have F2 := Lib.hid (((Fr.refl nob w1).alloc _).trans' f2); clear f2
        go_wp2
        go_ret
        exact ⟨_, _, S, rfl, by unfold prg; rw [RN]; rfl, ⟨_, _, HB1.out.on F2.out⟩, HS1.out.trans (Stp.of F2.out)⟩
end Go.Proofs.YtmoeboknelnaoaaGreatDoor

/-
  Walk of package bre: branch.
-/
namespace Go.Proofs.YtmoeboknelnaoaaGreatDoor
open Go.RowKit

def PO (O : Nat → Prop) (v : Value) : Nat → Prop := fun k => O k ∨ v.ownBlock = some k
/-- The parts read so far: a row that was not there in W. -/
def Pts (S O : Nat → Prop) (W w : World) (ps : List Nd) (v : Value) : Prop := OwnNS (SO S O) w ps v v.ownBlock ∧ ∀ k, v.ownBlock = some k → ¬ S k ∧ W.heap.size ≤ k
/-- Only blocks turn that a reading does not know, and W neither. -/
def Off (S : Nat → Prop) (W w w' : World) : Prop := ∃ X, Fr X w w' ∧ ∀ k, X k → ¬ S k ∧ W.heap.size ≤ k

theorem Pts.nil (S O : Nat → Prop) (W w : World) : Pts S O W w [] (.slice none 0 0) := ⟨OwnNS.nil _ _, fun _ h => by cases h⟩
theorem Pts.shape {S O : Nat → Prop} {W w : World} {ps : List Nd} {v : Value} (h : Pts S O W w ps v) : ∃ a c, v = .slice a ps.length c := h.1.shape
theorem Pts.stp {S O S' : Nat → Prop} {W w w' : World} {ps : List Nd} {v : Value} (h : Pts S O W w ps v) (hs : Stp S w S' w') : Pts S' O W w' ps v := by
  obtain ⟨h, hb⟩ := h
  have hlt := h.lt
  obtain ⟨vs, h1, h2, h3⟩ := h
  refine ⟨⟨vs, ownsRow_fr h1 hs.fr (fun k hk => (hb k hk).1), h2.keep hs.fr (fun k _ x => .inl (.inl x)) (fun k hk x => ?_), h3⟩, fun k hk => ⟨fun x => (hb k hk).1 (hs.old k (hlt k hk) x), (hb k hk).2⟩⟩
  rcases x with (x | x) | x
  · exact .inl (.inl (hs.old k hk x))
  · exact .inl (.inr x)
  · exact .inr x
theorem Pts.on {S O : Nat → Prop} {W w w' : World} {ps : List Nd} {v : Value} (h : Pts S O W w ps v) (f : Fr nob w w') : Pts S O W w' ps v := h.stp (Stp.of f)
theorem Pts.lt {S O : Nat → Prop} {W w : World} {ps : List Nd} {v : Value} (h : Pts S O W w ps v) (hO : ∀ k, O k → k < w.heap.size) : ∀ k, PO O v k → k < w.heap.size := fun k hk => hk.elim (hO k) (h.1.lt k)
theorem Pts.sn {S O : Nat → Prop} {W w : World} {ps : List Nd} {v : Value} (h : Pts S O W w ps v) (hO : ∀ k, O k → k < W.heap.size) : SN (SO S O) w ps v :=
  h.1.sn fun k hk x => x.elim (h.2 k hk).1 (fun y => by have := hO k y; have := (h.2 k hk).2; omega)

theorem Br.off {b : Nat} {l : List UInt8} {s : RxS} {S : Nat → Prop} {cv mv : Value} {W w w' : World} (h : Br b l s S cv mv w) (f : Off S W w w') : Br b l s S cv mv w' := by
  obtain ⟨X, f, hX⟩ := f
  exact ⟨f.heap h.blk (fun x => (hX _ x).1 h.me), ownsRow_fr h.cl f (fun k hk x => (hX _ x).1 (h.nc k hk).2), ownsRow_fr h.ma f (fun k hk x => (hX _ x).1 (h.nm k hk).2), h.nc, h.nm, h.ne, h.me⟩
theorem Rdg.off {b : Nat} {l : List UInt8} {s : RxS} {S : Nat → Prop} {W w w' : World} (h : Rdg b l s S w) (f : Off S W w w') : Rdg b l s S w' := by
  obtain ⟨cv, mv, h⟩ := h; exact ⟨cv, mv, h.off f⟩
theorem Stp.off {S0 S : Nat → Prop} {W w w' : World} (h : Stp S0 W S w) (f : Off S W w w') : Stp S0 W S w' := by
  obtain ⟨X, f, hX⟩ := f
  exact ⟨h.fr.trans f (fun i hi x => by have := (hX i x).2; omega), h.old, fun hl k hk => Nat.lt_of_lt_of_le (h.lt hl k hk) f.size⟩
theorem Off.size {S : Nat → Prop} {W w w' : World} (f : Off S W w w') : w.heap.size ≤ w'.heap.size := by obtain ⟨X, f, _⟩ := f; exact f.size

theorem wpList_append_pts {W w0 : World} {S O : Nat → Prop} {ops : Array Oper} {rest : List Oper} {o : Oper} {a : Act} {Q : Exit → Act → World → Prop} (hgd : o.guard = none) (s x : Operand)
    (ho : o.op = .call { callee := .builtin .append, args := #[s, x], argTypes := #[88, 88] })
    (ps : List Nd) (t : Nd) (v val : Value) (e : TypeId) (b : Nat) (hs : a.eval s = v) (hp : Pts S O W w0 ps v) (hlt : ∀ k, S k → k < w0.heap.size) (hO : ∀ k, O k → k < w0.heap.size) (hW : W.heap.size ≤ w0.heap.size) (hb : b = w0.heap.size)
    (hx : a.eval x = .slice (some ⟨b, 0, none⟩) 1 1) (hv : RN (SO S (PO O v)) w0 t val) (hl : ps.length ≤ 2000000)
    (h : ∀ v' w', Pts S O W w' (ps ++ [t]) v' → Off S W w0 w' → wpList Tryz.prog ops Q rest (a.put o.dst v') w') : wpList Tryz.prog ops Q (o :: rest) a (w0.alloc (.cells #[val] e)) := by
  have hv' : RN (LGS (SO S O) v.ownBlock) w0 t val := RN.keep (Fr.refl nob w0) (fun _ _ x => x.elim) (fun k _ x => by
    rcases x with (x | x) | x
    · exact .inl x
    · exact .inr (.inl x)
    · exact .inr (.inr x)) _ _ hv
  have hsn : SN (LGS (SO S O) v.ownBlock) (w0.alloc (.cells #[val] e)) [t] (.slice (some ⟨b, 0, none⟩) 1 1) := SN.one' hv' (fun k x => by
    rcases x with (x | x) | x
    · exact hlt k x
    · exact hO k x
    · exact hp.1.lt k x) e hb
  have hown := hp.1.on ((Fr.refl nob w0).alloc (.cells #[val] e))
  refine wpList_append_snS hgd s x ho ps [t] v _ v.ownBlock hs hown hx hsn (by simp; omega) fun v' w' g' q1 q2 q3 => ?_
  have hg' : v'.ownBlock = g' := q1.blk
  subst hg'
  have hal : w0.heap.size ≤ (w0.alloc (.cells #[val] e)).heap.size := ((Fr.refl nob w0).alloc _).size
  refine h v' w' ⟨q1, fun k hk => ?_⟩ ⟨LG v.ownBlock, ((Fr.refl (LG v.ownBlock) w0).alloc _).trans' q2, fun k hk => hp.2 k hk⟩
  rcases q3 k hk with hk | hk
  · exact hp.2 k hk
  · refine ⟨fun x => by have := hlt k x; omega, ?_⟩
    exact Nat.le_trans (Nat.le_trans hW hal) hk

def Nd.unit : Nd → Bool
  | .one _ | .rep .. | .group .. | .back _ | .start | .fin => true
  | _ => false
def units (ps : List Nd) : Prop := ∀ t ∈ ps, t.unit = true
theorem units.snoc {ps : List Nd} {t : Nd} (h : units ps) (ht : t.unit = true) : units (ps ++ [t]) := fun x hx => by
  rcases List.mem_append.1 hx with hx | hx
  · exact h x hx
  · rw [List.mem_singleton.1 hx]; exact ht
theorem unit_part {t : Nd} (h : t.unit = true) : t.part = [t] := by cases t <;> first | rfl | cases h
theorem units_parts {ps : List Nd} (h : units ps) : parts ps = ps := by
  induction ps with
  | nil => rfl
  | cons t ts ih =>
    show t.part ++ parts ts = _
    rw [unit_part (h t (by simp)), ih (fun x hx => h x (by simp [hx]))]; rfl
/-- What a branch is. -/
def Nd.brn : Nd → Prop
  | .empty => True
  | .cat l => 1 < l.length ∧ units l
  | t => t.unit = true
theorem joined_brn {ps : List Nd} (h : units ps) : (joined ps).brn := by
  unfold joined
  rw [units_parts h]
  match ps, h with
  | [], _ => trivial
  | [x], h =>
    have := h x (by simp)
    show x.brn
    cases x <;> first | exact this | cases this
  | x :: y :: r, h => exact ⟨by simp, h⟩
theorem brn_arm {t : Nd} (h : t.brn) : t.arm = [t] := by cases t <;> first | rfl | cases h
def brns (ts : List Nd) : Prop := ∀ t ∈ ts, t.brn
theorem brns.snoc {ts : List Nd} {t : Nd} (h : brns ts) (ht : t.brn) : brns (ts ++ [t]) := fun x hx => by
  rcases List.mem_append.1 hx with hx | hx
  · exact h x hx
  · rw [List.mem_singleton.1 hx]; exact ht
theorem brns_arms {ts : List Nd} (h : brns ts) : arms ts = ts := by
  induction ts with
  | nil => rfl
  | cons t r ih =>
    show t.arm ++ arms r = _
    rw [brn_arm (h t (by simp)), ih (fun x hx => h x (by simp [hx]))]; rfl
theorem chosen_brns {ts : List Nd} (h : brns ts) : chosen ts = onlyOf ts (.alt ts) := by unfold chosen; rw [brns_arms h]
theorem chosen_nil {ts : List Nd} (h : brns ts) : chosen ts ≠ .nil := by
  rw [chosen_brns h]
  match ts, h with
  | [], _ => intro e; cases e
  | [x], h => intro e; have := h x (by simp); rw [show x = Nd.nil from e] at this; cases this
  | x :: y :: r, _ => intro e; cases e

theorem repS_unit {l : List UInt8} : ∀ (n : Nat) (s : RxS) (t t' : Nd) (s' : RxS), t.unit = true → repS prg l n s t = .inr (t', s') → t'.unit = true
  | 0, s, t, t', s', ht, h => by rw [repS] at h; injection h with h; injection h with h1 h2; subst h1; exact ht
  | n + 1, s, t, t', s', ht, h => by
    rw [repS] at h
    split at h
    · exact repS_unit n _ _ _ _ (by rfl) h
    · split at h
      · exact repS_unit n _ _ _ _ (by rfl) h
      · split at h
        · split at h
          · cases h
          · exact repS_unit n _ _ _ _ (by rfl) h
        · split at h
          · exact repS_unit n _ _ _ _ (by rfl) h
          · injection h with h; injection h with h1 h2; subst h1; exact ht
theorem groupS_unit {l : List UInt8} {C : Option (RxS → Out Nd)} {p : Nat} {s s' : RxS} {t : Nd} (h : groupS prg l C p s = .inr (t, s')) : t.unit = true := by
  unfold groupS at h
  split at h
  · cases h
  · split at h
    · cases h
    · split at h
      · injection h with h; injection h with h1 h2; subst h1; rfl
      · cases h
theorem atomS_unit {l : List UInt8} {C : Option (RxS → Out Nd)} {s s' : RxS} {t : Nd} {b : UInt8} (h : atomS prg l C s b = .inr (t, s')) : t.unit = true := by
  unfold atomS at h
  split at h
  · unfold escS at h
    split at h
    · cases h
    · split at h
      · exact groupS_unit h
      · split at h
        · cases h
        · split at h
          · split at h
            · injection h with h; injection h with h1 h2; subst h1; rfl
            · cases h
          · split at h
            · cases h
            · injection h with h; injection h with h1 h2; subst h1; rfl
  · split at h
    · split at h
      · cases h
      · injection h with h; injection h with h1 h2; subst h1; rfl
    · split at h
      · injection h with h; injection h with h1 h2; subst h1; rfl
      · injection h with h; injection h with h1 h2; subst h1; rfl
theorem rndS_unit {l : List UInt8} {C : Option (RxS → Out Nd)} {s s' : RxS} {t : Nd} {b : UInt8} (h : rndS l C s b = .inr (t, s')) : t.unit = true := by
  unfold rndS at h
  split at h
  · cases h
  · next hp => exact repS_unit _ _ _ _ _ (atomS_unit hp) h
theorem brS_brn {l : List UInt8} {C : Option (RxS → Out Nd)} {inner : Bool} : ∀ (n : Nat) (front : Bool) (s : RxS) (ps : List Nd) (t : Nd) (s' : RxS), units ps → brS prg l C inner n front s ps = .inr (t, s') → t.brn
  | 0, front, s, ps, t, s', hu, h => by rw [brS] at h; injection h with h; injection h with h1 h2; subst h1; exact joined_brn hu
  | n + 1, front, s, ps, t, s', hu, h => by
    by_cases hl : s.at_ < l.length
    · cases h1 : (ahd l s.at_ [92, 124] || (inner && ahd l s.at_ [92, 41])) with
      | true => rw [brS_stop hl h1] at h; injection h with h; injection h with h1 h2; subst h1; exact joined_brn hu
      | false =>
        cases h2 : (front && (ahd l s.at_ [92, 123] || (ahd l s.at_ [92, 43] || ahd l s.at_ [92, 63]))) with
        | true => rw [brS_bad hl h1 h2] at h; cases h
        | false =>
          cases h3 : (ahd l s.at_ [36] && lastS l s.at_) with
          | true => rw [brS_fin hl h1 h2 h3] at h; exact brS_brn n _ _ _ _ _ (hu.snoc (by rfl)) h
          | false =>
            rw [brS_go hl h1 h2 h3] at h
            cases hr : rndS l C s l[s.at_] with
            | inl e => rw [hr] at h; cases h
            | inr z =>
              obtain ⟨t1, s1⟩ := z
              rw [hr] at h
              exact brS_brn n _ _ _ _ _ (hu.snoc (rndS_unit hr)) h
    · rw [brS_over (by omega)] at h; injection h with h; injection h with h1 h2; subst h1; exact joined_brn hu
theorem branchS_brn {l : List UInt8} {C : Option (RxS → Out Nd)} {inner : Bool} {s s' : RxS} {t : Nd} (h : branchS prg l C inner s = .inr (t, s')) : t.brn := by
  unfold branchS at h
  split at h
  · exact brS_brn _ _ _ _ _ _ (fun x hx => by rw [List.mem_singleton.1 hx]; rfl) h
  · exact brS_brn _ _ _ _ _ _ (fun x hx => by cases hx) h
theorem brn_nil {t : Nd} (h : t.brn) : t ≠ .nil := by rintro rfl; cases h
theorem RN.kind' {S : Nat → Prop} {w : World} {t : Nd} {v : Value} (h : RN S w t v) : t = .nil ∨ ∃ i x, v = .iface i x := by
  cases t with
  | nil => exact .inl rfl
  | _ => exact .inr (by rcases h.shape with e | e <;> first | exact e | (subst e; rw [RN] at h; first | (obtain ⟨_, h, _⟩ := h; cases h; done) | (cases h; done)))
theorem RN.some {S : Nat → Prop} {w : World} {t : Nd} {v : Value} (h : RN S w t v) (ht : t ≠ .nil) : ∃ i x, v = .iface i x := by
  rcases h.kind' with h | h
  · exact absurd h ht
  · exact h
end Go.Proofs.YtmoeboknelnaoaaGreatDoor

/-
  How far a regex of either kind is read, and how great its tree is. No walk.
-/
namespace Go.Proofs.YtmoeboknelnaoaaGreatDoor
open Go.RowKit

theorem sgn_fit {l X : List UInt8} {k : Nat} (h : sgn l k = X) (hX : X ≠ []) : k + X.length ≤ l.length := by
  have hk : k < l.length := by
    by_cases hk : k < l.length
    · exact hk
    · exact absurd (h.symm.trans (sgn_out (by omega))) hX
  have := (sgn_len l k).2
  rw [h] at this
  omega
theorem opB_size (ere : Bool) (b : UInt8) : 1 ≤ (opB ere b).length ∧ (opB ere b).length ≤ 2 ∧ opB ere b ≠ [] ∧ (ere = false → (opB ere b).length = 2) := by cases ere <;> simp [opB]
theorem sgn_op {l : List UInt8} {k : Nat} {ere : Bool} {b : UInt8} (h : (sgn l k == opB ere b) = true) : k + (opB ere b).length ≤ l.length := sgn_fit (eq_of_beq h) (opB_size ere b).2.2.1
theorem ditv_in {l : List UInt8} {ere : Bool} {k : Nat} {m x : Int} {j : Nat} (h : ditv l ere k = some (m, x, j)) : k < j ∧ j ≤ l.length := by
  unfold ditv at h
  simp only at h
  split at h
  · cases h
  · next hc =>
    have h4 := (opB_size ere 125).1
    have key : ∀ (q : Nat), ahd l q (opB ere 125) ≠ false → q + (opB ere 125).length ≤ l.length := fun q hq => ahd_le (by simpa using hq) h4
    split at h
    · split at h
      all_goals
        split at h
        · cases h
        · next ha =>
          injection h with h; injection h with h1 h; injection h with h2 h3
          have := key _ (fun e => ha (.inl e))
          omega
    · split at h
      · cases h
      · next ha =>
        injection h with h; injection h with h1 h; injection h with h2 h3
        have := key _ (fun e => ha (.inl e))
        omega

/-- Where a reading ends, and how great its tree is. -/
def KeptE (l : List UInt8) (f : RxS → Out Nd) : Prop := ∀ s, Sane l s → ∀ t s', f s = .inr (t, s') → Sane l s' ∧ s.at_ ≤ s'.at_ ∧ t.size + 2 * s.at_ ≤ 2 * s'.at_ + 2
theorem Sane.mk2 {l : List UInt8} {s : RxS} {ere : Bool} {b : UInt8} (t : List UInt8) (hs : Sane l s) (h : s.at_ + (opB ere b).length ≤ l.length) : Sane l ((if ere then s else s.mark t).go (opB ere b).length) := by
  cases ere
  · exact hs.markgo t (opB_size false b).1 h
  · exact hs.go h
theorem repD_kept {ere : Bool} {l : List UInt8} : ∀ (n : Nat) (s : RxS) (t : Nd) (t' : Nd) (s' : RxS), Sane l s → repD prg ere l n s t = .inr (t', s') → Sane l s' ∧ s.at_ ≤ s'.at_ ∧ t'.size + 2 * s.at_ ≤ 2 * s'.at_ + t.size
  | 0, s, t, t', s', hs, h => by
    rw [repD] at h; injection h with h; injection h with h1 h2; subst h1; subst h2; exact ⟨hs, Nat.le_refl _, by omega⟩
  | n + 1, s, t, t', s', hs, h => by
    have hz : ∀ a b, (prg.rep t a b).size = 1 + t.size := fun _ _ => rfl
    have hat : ∀ u b, ((if ere then s else s.mark u).go (opB ere b).length).at_ = s.at_ + (opB ere b).length := fun u b => by cases ere <;> rfl
    have ho := opB_size ere
    rw [repD] at h
    split at h
    · next e =>
      have hle : s.at_ + 1 ≤ l.length := sgn_fit (eq_of_beq e) (by decide)
      obtain ⟨k1, k2, k3⟩ := repD_kept n _ _ _ _ (hs.go (n := 1) hle) h
      have k2 : s.at_ + 1 ≤ s'.at_ := k2
      have k3 : t'.size + 2 * (s.at_ + 1) ≤ 2 * s'.at_ + (1 + t.size) := k3
      exact ⟨k1, by omega, by omega⟩
    · split at h
      · next e =>
        obtain ⟨k1, k2, k3⟩ := repD_kept n _ _ _ _ (hs.mk2 _ (sgn_op e)) h
        rw [hat] at k2 k3; rw [hz] at k3
        have := (ho 43).1
        exact ⟨k1, by omega, by omega⟩
      · split at h
        · next e =>
          obtain ⟨k1, k2, k3⟩ := repD_kept n _ _ _ _ (hs.mk2 _ (sgn_op e)) h
          rw [hat] at k2 k3; rw [hz] at k3
          have := (ho 63).1
          exact ⟨k1, by omega, by omega⟩
        · split at h
          · cases hi : ditv l ere (s.at_ + (opB ere 123).length) with
            | none => rw [hi] at h; cases h
            | some y =>
              obtain ⟨m, x, j⟩ := y
              rw [hi] at h
              obtain ⟨j1, j2⟩ := ditv_in hi
              obtain ⟨k1, k2, k3⟩ := repD_kept n _ _ _ _ (hs.to (n := j) (by omega) j2) h
              have k2 : j ≤ s'.at_ := k2
              have k3 : t'.size + 2 * j ≤ 2 * s'.at_ + (1 + t.size) := k3
              exact ⟨k1, by omega, by omega⟩
          · injection h with h; injection h with h1 h2; subst h1; subst h2; exact ⟨hs, Nat.le_refl _, by omega⟩
section
variable {ere : Bool} {l : List UInt8} {C : Option (RxS → Out Nd)} (hC : ∀ f, C = some f → KeptE l f)
theorem escD_kept {s s' : RxS} {t : Nd} {b : UInt8} (hs : Sane l s) (hl : s.at_ + 2 ≤ l.length) (h : escD prg ere s b = .inr (t, s')) : Sane l s' ∧ s.at_ < s'.at_ ∧ t.size + 2 * s.at_ ≤ 2 * s'.at_ := by
  unfold escD at h
  split at h
  · split at h
    · injection h with h; injection h with h1 h2; subst h1; subst h2
      cases ere
      · exact ⟨hs.go hl, by show s.at_ < s.at_ + 2; omega, by show 1 + 2 * s.at_ ≤ 2 * (s.at_ + 2); omega⟩
      · exact ⟨hs.markgo _ (by omega) hl, by show s.at_ < s.at_ + 2; omega, by show 1 + 2 * s.at_ ≤ 2 * (s.at_ + 2); omega⟩
    · cases h
  · split at h
    · cases h
    · next c m _ =>
      injection h with h; injection h with h1 h2; subst h1; subst h2
      cases m
      · exact ⟨hs.go hl, by show s.at_ < s.at_ + 2; omega, by show 1 + 2 * s.at_ ≤ 2 * (s.at_ + 2); omega⟩
      · exact ⟨hs.markgo _ (by omega) hl, by show s.at_ < s.at_ + 2; omega, by show 1 + 2 * s.at_ ≤ 2 * (s.at_ + 2); omega⟩
include hC
theorem groupD_kept {s s' : RxS} {t : Nd} (hs : Sane l s) (hl : s.at_ + (opB ere 40).length ≤ l.length) (h : groupD prg ere l C s = .inr (t, s')) : Sane l s' ∧ s.at_ < s'.at_ ∧ t.size + 2 * s.at_ ≤ 2 * s'.at_ := by
  have ho := opB_size ere 40
  unfold groupD at h
  cases C with
  | none => cases h
  | some f =>
    simp only at h
    cases hf : f { s.go (opB ere 40).length with opened := s.opened + 1 } with
    | inl e => rw [hf] at h; cases h
    | inr z =>
      obtain ⟨t1, s1⟩ := z
      rw [hf] at h
      simp only at h
      have := hs.op
      have hg := hs.go hl
      obtain ⟨k1, k2, k3⟩ := hC f rfl { s.go (opB ere 40).length with opened := s.opened + 1 } ⟨hg.le, hg.mr, hg.cl, by show s.opened + 1 ≤ s.at_ + _; omega⟩ t1 s1 hf
      have k2 : s.at_ + (opB ere 40).length ≤ s1.at_ := k2
      have k3 : t1.size + 2 * (s.at_ + (opB ere 40).length) ≤ 2 * s1.at_ + 2 := k3
      split at h
      · next e =>
        have e1 := sgn_op e
        have e2 : (opB ere 40).length = (opB ere 41).length := by cases ere <;> rfl
        injection h with h; injection h with h1 h2; subst h1; subst h2
        refine ⟨⟨by show s1.at_ + _ ≤ _; omega, Nat.le_trans k1.mr (Nat.le_add_right _ _), ?_, Nat.le_trans k1.op (Nat.le_add_right _ _)⟩, by show s.at_ < s1.at_ + _; omega, ?_⟩
        · show (s1.closed ++ [_]).length ≤ s1.at_ + _
          have := k1.cl
          rw [List.length_append]; simp only [List.length_singleton]; omega
        · show 1 + t1.size + 2 * s.at_ ≤ 2 * (s1.at_ + _); omega
      · cases h
theorem atomD_kept {s s' : RxS} {t : Nd} (hs : Sane l s) (h : atomD prg ere l C s = .inr (t, s')) : Sane l s' ∧ s.at_ < s'.at_ ∧ t.size + 2 * s.at_ ≤ 2 * s'.at_ := by
  unfold atomD at h
  split at h
  · next e => exact groupD_kept hC hs (sgn_op e) h
  · split at h
    · cases h
    · split at h
      · cases hp : prs l (s.at_ + 1) with
        | inl z => rw [hp] at h; cases h
        | inr y =>
          obtain ⟨c, k⟩ := y
          rw [hp] at h
          injection h with h; injection h with h2 h3; subst h2; subst h3
          obtain ⟨_, p2, p3⟩ := prs_in hp
          have p2 : s.at_ + 1 < k := p2
          have p3 : k ≤ l.length := p3
          exact ⟨hs.to (by omega) p3, by show s.at_ < k; omega, by show 1 + 2 * s.at_ ≤ 2 * k; omega⟩
      · split at h
        · next e =>
          have hle : s.at_ + 1 ≤ l.length := sgn_fit (eq_of_beq e) (by decide)
          injection h with h; injection h with h2 h3; subst h2; subst h3
          exact ⟨hs.go hle, by show s.at_ < s.at_ + 1; omega, by show 1 + 2 * s.at_ ≤ 2 * (s.at_ + 1); omega⟩
        · split at h
          · cases h
          · split at h
            · cases h
            · next b e =>
              have hle : s.at_ + 1 ≤ l.length := sgn_fit e (by simp)
              injection h with h; injection h with h2 h3; subst h2; subst h3
              exact ⟨hs.go hle, by show s.at_ < s.at_ + 1; omega, by show 1 + 2 * s.at_ ≤ 2 * (s.at_ + 1); omega⟩
            · next b r e =>
              have h2 := (sgn_len l s.at_).1
              have hle := sgn_fit e (by simp)
              simp only [List.length_cons] at hle
              obtain ⟨k1, k2, k3⟩ := escD_kept hs (by omega) h
              exact ⟨k1, k2, k3⟩
theorem brD_kept {inner : Bool} : ∀ (n : Nat) (first front : Bool) (s : RxS) (ps : List Nd) (t : Nd) (s' : RxS), Sane l s → brD prg ere l C inner n first front s ps = .inr (t, s') →
    Sane l s' ∧ s.at_ ≤ s'.at_ ∧ t.size + 2 * s.at_ ≤ 2 * s'.at_ + Nd.sizes ps + 1
  | 0, first, front, s, ps, t, s', hs, h => by
    rw [brD] at h; injection h with h; injection h with h1 h2; subst h1; subst h2
    have := joined_le ps
    exact ⟨hs, Nat.le_refl _, by show (joined ps).size + _ ≤ _; omega⟩
  | n + 1, first, front, s, ps, t, s', hs, h => by
    have hj := joined_le ps
    rw [brD] at h
    split at h
    · injection h with h; injection h with h1 h2; subst h1; subst h2
      exact ⟨hs, Nat.le_refl _, by show (joined ps).size + _ ≤ _; omega⟩
    · split at h
      · next e =>
        have e1 : (sgn l s.at_ == [94]) = true := by simp only [Bool.and_eq_true] at e; exact e.1
        have hle : s.at_ + 1 ≤ l.length := sgn_fit (eq_of_beq e1) (by decide)
        obtain ⟨k1, k2, k3⟩ := brD_kept n _ _ _ _ _ _ (hs.go (n := 1) hle) h
        have k2 : s.at_ + 1 ≤ s'.at_ := k2
        have k3 : t.size + 2 * (s.at_ + 1) ≤ 2 * s'.at_ + Nd.sizes (ps ++ [.start]) + 1 := k3
        rw [Nd.sizes_append] at k3
        have : Nd.sizes [Nd.start] = 1 := rfl
        exact ⟨k1, by omega, by omega⟩
      · split at h
        · next e =>
          have e1 : (sgn l s.at_ == [36]) = true := by simp only [Bool.and_eq_true] at e; exact e.1
          have hle : s.at_ + 1 ≤ l.length := sgn_fit (eq_of_beq e1) (by decide)
          obtain ⟨k1, k2, k3⟩ := brD_kept n _ _ _ _ _ _ (hs.go (n := 1) hle) h
          have k2 : s.at_ + 1 ≤ s'.at_ := k2
          have k3 : t.size + 2 * (s.at_ + 1) ≤ 2 * s'.at_ + Nd.sizes (ps ++ [.fin]) + 1 := k3
          rw [Nd.sizes_append] at k3
          have : Nd.sizes [Nd.fin] = 1 := rfl
          exact ⟨k1, by omega, by omega⟩
        · split at h
          · cases h
          · split at h
            · cases h
            · next t1 s1 e1 =>
              split at h
              · cases h
              · next t2 s2 e2 =>
                obtain ⟨a1, a2, a3⟩ := atomD_kept hC hs e1
                obtain ⟨b1, b2, b3⟩ := repD_kept _ _ _ _ _ a1 e2
                obtain ⟨k1, k2, k3⟩ := brD_kept n _ _ _ _ _ _ b1 h
                rw [Nd.sizes_append] at k3
                have : Nd.sizes [t2] = t2.size := by simp [Nd.sizes]
                exact ⟨k1, by omega, by omega⟩
theorem branchD_kept {inner : Bool} {s s' : RxS} {t : Nd} (hs : Sane l s) (h : branchD prg ere l C inner s = .inr (t, s')) : Sane l s' ∧ s.at_ ≤ s'.at_ ∧ t.size + 2 * s.at_ ≤ 2 * s'.at_ + 1 := by
  have := brD_kept hC _ _ _ _ _ _ _ hs h
  simpa [Nd.sizes] using this
theorem loopD_kept {inner : Bool} : ∀ (n : Nat) (s : RxS) (ts : List Nd) (t : Nd) (s' : RxS), Sane l s → chLoopD prg ere l C inner n s ts = .inr (t, s') →
    Sane l s' ∧ s.at_ ≤ s'.at_ ∧ t.size + 2 * s.at_ ≤ 2 * s'.at_ + Nd.sizes ts + 1
  | 0, s, ts, t, s', hs, h => by
    rw [chLoopD] at h; injection h with h; injection h with h1 h2; subst h1; subst h2
    have := chosen_le ts
    exact ⟨hs, Nat.le_refl _, by show (chosen ts).size + _ ≤ _; omega⟩
  | n + 1, s, ts, t, s', hs, h => by
    have hj := chosen_le ts
    have hat : ∀ u b, ((if ere then s else s.mark u).go (opB ere b).length).at_ = s.at_ + (opB ere b).length := fun u b => by cases ere <;> rfl
    have ho := opB_size ere 124
    rw [chLoopD] at h
    split at h
    · next e =>
      split at h
      · cases h
      · next t1 s1 e1 =>
        obtain ⟨a1, a2, a3⟩ := branchD_kept hC (hs.mk2 _ (sgn_op e)) e1
        rw [hat] at a2 a3
        obtain ⟨k1, k2, k3⟩ := loopD_kept n _ _ _ _ a1 h
        rw [Nd.sizes_append] at k3
        have : Nd.sizes [t1] = t1.size := by simp [Nd.sizes]
        exact ⟨k1, by omega, by omega⟩
    · injection h with h; injection h with h1 h2; subst h1; subst h2
      exact ⟨hs, Nat.le_refl _, by show (chosen ts).size + _ ≤ _; omega⟩
theorem choiceD_kept {inner : Bool} {s s' : RxS} {t : Nd} (hs : Sane l s) (h : choiceD prg ere l C inner s = .inr (t, s')) : Sane l s' ∧ s.at_ ≤ s'.at_ ∧ t.size + 2 * s.at_ ≤ 2 * s'.at_ + 2 := by
  unfold choiceD at h
  split at h
  · cases h
  · next t1 s1 e1 =>
    obtain ⟨a1, a2, a3⟩ := branchD_kept hC hs e1
    obtain ⟨k1, k2, k3⟩ := loopD_kept hC _ _ _ _ _ a1 h
    have : Nd.sizes [t1] = t1.size := by simp [Nd.sizes]
    exact ⟨k1, by omega, by omega⟩
end
theorem chD_kept {ere : Bool} {l : List UInt8} : ∀ n, KeptE l (chD prg ere l n)
  | 0 => fun s hs t s' h => by rw [chD] at h; exact choiceD_kept (fun f hf => by cases hf) hs h
  | n + 1 => fun s hs t s' h => by rw [chD] at h; exact choiceD_kept (fun f hf => by injection hf with hf; subst hf; exact chD_kept n) hs h
end Go.Proofs.YtmoeboknelnaoaaGreatDoor

/-
  An extended regex in plain words, just as the program reads it: with a sticky error. It is the regex of either kind by its signs. No walk.
-/
namespace Go.Proofs.YtmoeboknelnaoaaGreatDoor
open Go.RowKit

/-- The state of a reading; what is wrong first, and where. -/
structure ES where
  r : RxS
  x : Option (Int × Nat)

def ES.go (s : ES) (n : Nat) : ES := ⟨s.r.go n, s.x⟩
def ES.to (s : ES) (n : Nat) : ES := ⟨s.r.to n, s.x⟩
def ES.mark (s : ES) (t : List UInt8) : ES := ⟨s.r.mark t, s.x⟩
def ES.fail (l : List UInt8) (s : ES) (e : Int) (p : Nat) : ES := ⟨s.r.to l.length, some (s.x.getD (e, p))⟩

section
variable (l : List UInt8)
def numX (s : ES) : Int × ES := (if (num3 (l.drop s.r.at_) 0 0).2 = 0 then -1 else ((num3 (l.drop s.r.at_) 0 0).1 : Int), s.go (num3 (l.drop s.r.at_) 0 0).2)
/-- The bounds behind a brace. -/
def itvX2 (s1 : ES) (mn : Int) : Int × ES := if 0 ≤ mn ∧ l[s1.r.at_]? = some 44 then numX l (s1.go 1) else (mn, s1)
def itvX3 (mn mx : Int) (s2 : ES) : Bool × ES :=
  if 0 ≤ mn ∧ l[s2.r.at_]? = some 125 then (decide (mn ≤ 255) && (decide (mx ≤ 255) && (decide (mx < 0) || decide (mn ≤ mx))), s2.go 1) else (false, s2)
def itvX (s : ES) : Int × Int × Bool × ES :=
  let a := numX l s
  let b := itvX2 l a.2 a.1
  let c := itvX3 l a.1 b.1 b.2
  (a.1, b.1, c.1, c.2)
def repX : Nat → ES → Nd → Nd × ES
  | 0, s, t => (t, s)
  | n + 1, s, t =>
    if l[s.r.at_]? = some 42 then repX n (s.go 1) (.rep t 0 (-1))
    else if l[s.r.at_]? = some 43 then repX n (s.go 1) (.rep t 1 (-1))
    else if l[s.r.at_]? = some 63 then repX n (s.go 1) (.rep t 0 1)
    else if l[s.r.at_]? = some 123 then
      (if (itvX l (s.go 1)).2.2.1 then repX n (itvX l (s.go 1)).2.2.2 (.rep t (itvX l (s.go 1)).1 (itvX l (s.go 1)).2.1) else (t, (itvX l (s.go 1)).2.2.2.fail l 7 s.r.at_))
    else (t, s)
/-- Is a backslash and this byte an extension? -/
def mrkX (c : UInt8) : Bool := c == 116 || (c == 119 || (c == 87 || (c == 115 || (c == 83 || (decide (49 ≤ c.toNat) && decide (c.toNat ≤ 57))))))
def escX (s : ES) : Nd × ES :=
  match l[s.r.at_ + 1]? with
  | none => (.nil, s.fail l 11 s.r.at_)
  | some c =>
    let s2 := (if mrkX c then s.mark [92, c] else s).go 2
    if 49 ≤ c.toNat ∧ c.toNat ≤ 57 then (.back ((c.toNat - 48 : Nat) : Int), if s.r.closed.contains (c.toNat - 48) then s2 else s2.fail l 9 s.r.at_)
    else match escB c with
      | none => (.one (spn c.toNat c.toNat), s2.fail l 2 s.r.at_)
      | some (S, _) => (.one S, s2)
def grpIn (s : ES) : ES := ⟨{ s.r.go 1 with opened := s.r.opened + 1 }, s.x⟩
def grpOut (n p : Nat) (s : ES) : ES :=
  let s3 := if l[s.r.at_]? = some 41 then s.go 1 else s.fail l 8 p
  ⟨{ s3.r with closed := s3.r.closed ++ [n] }, s3.x⟩
def groupX (C : Option (ES → Nd × ES)) (s : ES) : Nd × ES :=
  match C with
  | none => (.nil, s.fail l 4 s.r.at_)
  | some f => (.group ((s.r.opened + 1 : Nat) : Int) (f (grpIn s)).1, grpOut l (s.r.opened + 1) s.r.at_ (f (grpIn s)).2)
def atomX (C : Option (ES → Nd × ES)) (s : ES) (c : UInt8) : Nd × ES :=
  if c = 40 then groupX l C s
  else if c = 41 then (.nil, s.fail l 8 s.r.at_)
  else if c = 92 then escX l s
  else if c = 91 then
    match prs l (s.r.at_ + 1) with
    | .inl (e, p) => (.nil, s.fail l e p)
    | .inr (S, k) => (.one S, s.to k)
  else if c = 46 then (.one (spn 0 255), s.go 1)
  else (.one (spn c.toNat c.toNat), s.go 1)
/-- What a sign in front of an atom tells. -/
def frtX (front : Bool) (s : ES) (c : UInt8) : ES :=
  if c = 41 then s.fail l 8 s.r.at_
  else if (c = 42 ∨ c = 43 ∨ c = 63 ∨ c = 123) ∧ front = true then s.fail l 10 s.r.at_
  else s
def brX (C : Option (ES → Nd × ES)) (inner : Bool) : Nat → Bool → ES → List Nd → Nd × ES
  | 0, _, s, ps => (joined ps, s)
  | n + 1, front, s, ps =>
    match l[s.r.at_]? with
    | none => (joined ps, s)
    | some c =>
      if (c = 41 ∧ inner = true) ∨ c = 124 then (joined ps, s)
      else if c = 94 then brX C inner n true (s.go 1) (ps ++ [.start])
      else if c = 36 then brX C inner n true (s.go 1) (ps ++ [.fin])
      else if (frtX l front s c).x.isSome then (.nil, frtX l front s c)
      else
        let a := atomX l C s c
        let b := repX l (l.length + 1) a.2 a.1
        brX C inner n false b.2 (ps ++ [b.1])
def branchX (C : Option (ES → Nd × ES)) (inner : Bool) (s : ES) : Nd × ES := brX l C inner (if sgn l s.r.at_ == [94] then l.length + 2 else l.length + 1) true s []
def chLoopX (C : Option (ES → Nd × ES)) (inner : Bool) : Nat → ES → List Nd → Nd × ES
  | 0, s, ts => (chosen ts, s)
  | n + 1, s, ts =>
    if l[s.r.at_]? = some 124 then chLoopX C inner n (branchX l C inner (s.go 1)).2 (ts ++ [(branchX l C inner (s.go 1)).1])
    else (chosen ts, s)
def choiceX (C : Option (ES → Nd × ES)) (inner : Bool) (s : ES) : Nd × ES := chLoopX l C inner (l.length + 1) (branchX l C inner s).2 [(branchX l C inner s).1]
def chX : Nat → ES → Nd × ES
  | 0 => choiceX l none true
  | n + 1 => choiceX l (some (chX n)) (decide (n + 1 < 12))
end

theorem getE_lt {l : List UInt8} {k : Nat} {c : UInt8} (h : l[k]? = some c) : k < l.length := (List.getElem?_eq_some_iff.1 h).1
theorem Sane.goE {l : List UInt8} {s : ES} {n : Nat} (hs : Sane l s.r) (h : s.r.at_ + n ≤ l.length) : Sane l (s.go n).r := Sane.go hs h
theorem Sane.failE {l : List UInt8} {s : ES} (e : Int) (p : Nat) (hs : Sane l s.r) : Sane l (s.fail l e p).r := Sane.to hs hs.le (Nat.le_refl _)
theorem numX_kept {l : List UInt8} {s : ES} (hs : Sane l s.r) : Sane l (numX l s).2.r ∧ s.r.at_ ≤ (numX l s).2.r.at_ ∧ (numX l s).2.r.closed = s.r.closed := by
  obtain ⟨b1, b2, b3⟩ := num3_bd l s.r.at_ hs.le
  exact ⟨hs.goE b3, Nat.le_add_right _ _, rfl⟩
theorem itvX_kept {l : List UInt8} {s : ES} (hs : Sane l s.r) : Sane l (itvX l s).2.2.2.r ∧ s.r.at_ ≤ (itvX l s).2.2.2.r.at_ ∧ (itvX l s).2.2.2.r.closed = s.r.closed := by
  have h1 := numX_kept hs
  have h2 : ∀ s1 mn, Sane l s1.r → Sane l (itvX2 l s1 mn).2.r ∧ s1.r.at_ ≤ (itvX2 l s1 mn).2.r.at_ ∧ (itvX2 l s1 mn).2.r.closed = s1.r.closed := fun s1 mn h => by
    unfold itvX2
    split
    · next e =>
      have := numX_kept (s := s1.go 1) (h.goE (getE_lt e.2))
      exact ⟨this.1, Nat.le_trans (Nat.le_add_right _ _) this.2.1, this.2.2⟩
    · exact ⟨h, Nat.le_refl _, rfl⟩
  have h3 : ∀ mn mx s2, Sane l s2.r → Sane l (itvX3 l mn mx s2).2.r ∧ s2.r.at_ ≤ (itvX3 l mn mx s2).2.r.at_ ∧ (itvX3 l mn mx s2).2.r.closed = s2.r.closed := fun mn mx s2 h => by
    unfold itvX3
    split
    · next e => exact ⟨h.goE (getE_lt e.2), Nat.le_add_right _ _, rfl⟩
    · exact ⟨h, Nat.le_refl _, rfl⟩
  have h4 := h2 (numX l s).2 (numX l s).1 h1.1
  have h5 := h3 (numX l s).1 (itvX2 l (numX l s).2 (numX l s).1).1 _ h4.1
  exact ⟨h5.1, Nat.le_trans h1.2.1 (Nat.le_trans h4.2.1 h5.2.1), h5.2.2.trans (h4.2.2.trans h1.2.2)⟩
/-- What a part's reading keeps: 'd': how much its tree may be greater. -/
structure Kp (l : List UInt8) (s : ES) (q : Nd × ES) (d : Nat) : Prop where
  sn : Sane l q.2.r
  at_ : s.r.at_ ≤ q.2.r.at_
  sz : q.1.size + 3 * s.r.at_ ≤ 3 * q.2.r.at_ + d
  cl : q.2.r.closed.length + s.r.at_ ≤ s.r.closed.length + q.2.r.at_
theorem Kp.fail {l : List UInt8} {s s2 : ES} {t : Nd} {d : Nat} (e : Int) (p : Nat) (hs : Sane l s2.r) (h1 : s.r.at_ ≤ l.length) (h2 : t.size + 3 * s.r.at_ ≤ 3 * l.length + d) (h3 : s2.r.closed = s.r.closed) : Kp l s (t, s2.fail l e p) d :=
  ⟨hs.failE _ _, h1, h2, by show s2.r.closed.length + _ ≤ _ + l.length; rw [h3]; omega⟩
theorem Kp.of {l : List UInt8} {s s2 : ES} {t : Nd} {d : Nat} (hs : Sane l s2.r) (h1 : s.r.at_ ≤ s2.r.at_) (h2 : t.size + 3 * s.r.at_ ≤ 3 * s2.r.at_ + d) (h3 : s2.r.closed = s.r.closed) : Kp l s (t, s2) d :=
  ⟨hs, h1, h2, by show s2.r.closed.length + _ ≤ _ + s2.r.at_; rw [h3]; omega⟩
theorem Kp.trans {l : List UInt8} {s s2 : ES} {q : Nd × ES} {d d' : Nat} (h : Kp l s2 q d) (h1 : s.r.at_ ≤ s2.r.at_) (h2 : d + 3 * s.r.at_ ≤ 3 * s2.r.at_ + d') (h3 : s2.r.closed.length + s.r.at_ ≤ s.r.closed.length + s2.r.at_) : Kp l s q d' :=
  ⟨h.sn, Nat.le_trans h1 h.at_, by have := h.sz; omega, by have := h.cl; omega⟩
theorem repX_kept {l : List UInt8} : ∀ (n : Nat) (s : ES) (t : Nd), Sane l s.r → Kp l s (repX l n s t) t.size
  | 0, s, t, hs => by rw [repX]; exact Kp.of hs (Nat.le_refl _) (by omega) rfl
  | n + 1, s, t, hs => by
    have one : ∀ a b, s.r.at_ < l.length → Kp l s (repX l n (s.go 1) (.rep t a b)) t.size := fun a b hlt =>
      (repX_kept n (s.go 1) (.rep t a b) (hs.goE hlt)).trans (Nat.le_add_right _ _) (by show 1 + t.size + 3 * s.r.at_ ≤ 3 * (s.r.at_ + 1) + t.size; omega) (by show s.r.closed.length + _ ≤ _ + (s.r.at_ + 1); omega)
    rw [repX]
    split
    · next e => exact one _ _ (getE_lt e)
    · split
      · next e => exact one _ _ (getE_lt e)
      · split
        · next e => exact one _ _ (getE_lt e)
        · split
          · next e =>
            have hlt := getE_lt e
            obtain ⟨i1, i2, i3⟩ := itvX_kept (s := s.go 1) (hs.goE hlt)
            have i2 : s.r.at_ + 1 ≤ _ := i2
            split
            · exact (repX_kept n _ (.rep t _ _) i1).trans (by omega) (by show 1 + t.size + _ ≤ _; omega) (by rw [i3]; show s.r.closed.length + _ ≤ _; omega)
            · exact Kp.fail _ _ i1 hs.le (by have := hs.le; omega) i3
          · exact Kp.of hs (Nat.le_refl _) (by omega) rfl
theorem escX_kept {l : List UInt8} {s : ES} (hs : Sane l s.r) (hl : s.r.at_ < l.length) : Kp l s (escX l s) 0 ∧ s.r.at_ < (escX l s).2.r.at_ := by
  unfold escX
  cases h : l[s.r.at_ + 1]? with
  | none => exact ⟨Kp.fail _ _ hs hs.le (by show 1 + 3 * s.r.at_ ≤ _; omega) rfl, hl⟩
  | some c =>
    have hlt := getE_lt h
    simp only
    have h2 : Sane l ((if mrkX c then s.mark [92, c] else s).go 2).r := by
      cases mrkX c
      · exact hs.goE (by omega)
      · exact hs.markgo _ (by omega) (by omega)
    have h3 : ((if mrkX c then s.mark [92, c] else s).go 2).r.at_ = s.r.at_ + 2 := by cases mrkX c <;> rfl
    have h4 : ((if mrkX c then s.mark [92, c] else s).go 2).r.closed = s.r.closed := by cases mrkX c <;> rfl
    split
    · split
      · exact ⟨Kp.of h2 (by omega) (by rw [h3]; show 1 + 3 * s.r.at_ ≤ _; omega) h4, by rw [h3]; omega⟩
      · exact ⟨Kp.fail _ _ h2 hs.le (by show 1 + 3 * s.r.at_ ≤ _; omega) h4, hl⟩
    · split
      · exact ⟨Kp.fail _ _ h2 hs.le (by show 1 + 3 * s.r.at_ ≤ _; omega) h4, hl⟩
      · exact ⟨Kp.of h2 (by omega) (by rw [h3]; show 1 + 3 * s.r.at_ ≤ _; omega) h4, by rw [h3]; omega⟩
section
variable {l : List UInt8} {C : Option (ES → Nd × ES)} (hC : ∀ f, C = some f → ∀ s, Sane l s.r → Kp l s (f s) 2)
theorem grpIn_sane {s : ES} (hs : Sane l s.r) (hl : s.r.at_ < l.length) : Sane l (grpIn s).r := by
  have hg := hs.goE (n := 1) hl
  have hop := hs.op
  exact ⟨hg.le, hg.mr, hg.cl, by show s.r.opened + 1 ≤ s.r.at_ + 1; omega⟩
include hC
theorem groupX_kept {s : ES} (hs : Sane l s.r) (hl : s.r.at_ < l.length) : Kp l s (groupX l C s) 0 ∧ s.r.at_ < (groupX l C s).2.r.at_ := by
  unfold groupX
  cases C with
  | none => exact ⟨Kp.fail _ _ hs hs.le (by show 1 + 3 * s.r.at_ ≤ _; omega) rfl, hl⟩
  | some f =>
    simp only
    have hk := hC f rfl (grpIn s) (grpIn_sane hs hl)
    obtain ⟨q, hq⟩ : ∃ q, f (grpIn s) = q := ⟨_, rfl⟩
    rw [hq] at hk ⊢
    obtain ⟨k1, k2, k3, k4⟩ := hk
    have k2 : s.r.at_ + 1 ≤ _ := k2
    have k3 : _ + 3 * (s.r.at_ + 1) ≤ _ := k3
    have k4 : _ + (s.r.at_ + 1) ≤ s.r.closed.length + _ := k4
    have hcl := hs.cl
    unfold grpOut
    split
    · next e =>
      have he := getE_lt e
      refine ⟨⟨⟨he, Nat.le_trans k1.mr (Nat.le_add_right _ _), ?_, Nat.le_trans k1.op (Nat.le_add_right _ _)⟩, ?_, ?_, ?_⟩, ?_⟩
      · show (q.2.r.closed ++ [_]).length ≤ q.2.r.at_ + 1
        rw [List.length_append]; simp only [List.length_singleton]; omega
      · show s.r.at_ ≤ q.2.r.at_ + 1; omega
      · show 1 + q.1.size + 3 * s.r.at_ ≤ 3 * (q.2.r.at_ + 1) + 0; omega
      · show (q.2.r.closed ++ [_]).length + _ ≤ _ + (q.2.r.at_ + 1)
        rw [List.length_append]; simp only [List.length_singleton]; omega
      · show s.r.at_ < q.2.r.at_ + 1; omega
    · have hle := k1.le
      refine ⟨⟨⟨Nat.le_refl _, Nat.le_trans k1.mr hle, ?_, Nat.le_trans k1.op hle⟩, hs.le, ?_, ?_⟩, hl⟩
      · show (q.2.r.closed ++ [_]).length ≤ l.length
        rw [List.length_append]; simp only [List.length_singleton]; omega
      · show 1 + q.1.size + 3 * s.r.at_ ≤ 3 * l.length + 0; omega
      · show (q.2.r.closed ++ [_]).length + _ ≤ _ + l.length
        rw [List.length_append]; simp only [List.length_singleton]; omega
theorem atomX_kept {s : ES} {c : UInt8} (hs : Sane l s.r) (h : l[s.r.at_]? = some c) : Kp l s (atomX l C s c) 0 ∧ s.r.at_ < (atomX l C s c).2.r.at_ := by
  have hl := getE_lt h
  have hfail : ∀ e p, Kp l s (.nil, s.fail l e p) 0 ∧ s.r.at_ < (s.fail l e p).r.at_ := fun e p => ⟨Kp.fail _ _ hs hs.le (by show 1 + 3 * s.r.at_ ≤ _; omega) rfl, hl⟩
  have hone : ∀ S, Kp l s (.one S, s.go 1) 0 ∧ s.r.at_ < (s.go 1).r.at_ := fun S => ⟨Kp.of (hs.goE hl) (Nat.le_add_right _ _) (by show 1 + 3 * s.r.at_ ≤ 3 * (s.r.at_ + 1) + 0; omega) rfl, Nat.lt_succ_self _⟩
  unfold atomX
  split
  · exact groupX_kept hC hs hl
  · split
    · exact hfail _ _
    · split
      · exact escX_kept hs hl
      · split
        · cases hp : prs l (s.r.at_ + 1) with
          | inl z => exact hfail _ _
          | inr y =>
            obtain ⟨_, p2, p3⟩ := prs_in hp
            have p2 : s.r.at_ + 1 < y.2 := p2
            have p3 : y.2 ≤ l.length := p3
            refine ⟨Kp.of (Sane.to hs (by omega) p3) (by show s.r.at_ ≤ y.2; omega) (by show 1 + 3 * s.r.at_ ≤ 3 * y.2 + 0; omega) rfl, by show s.r.at_ < y.2; omega⟩
        · split
          · exact hone _
          · exact hone _
theorem brX_kept {inner : Bool} : ∀ (n : Nat) (front : Bool) (s : ES) (ps : List Nd), Sane l s.r → Kp l s (brX l C inner n front s ps) (Nd.sizes ps + 1)
  | 0, front, s, ps, hs => by rw [brX]; exact Kp.of hs (Nat.le_refl _) (by have := joined_le ps; omega) rfl
  | n + 1, front, s, ps, hs => by
    have hj : Kp l s (joined ps, s) (Nd.sizes ps + 1) := Kp.of hs (Nat.le_refl _) (by have := joined_le ps; omega) rfl
    rw [brX]
    cases h : l[s.r.at_]? with
    | none => exact hj
    | some c =>
      have hl := getE_lt h
      simp only
      have hone : ∀ t : Nd, t.size = 1 → Kp l s (brX l C inner n true (s.go 1) (ps ++ [t])) (Nd.sizes ps + 1) := fun t ht => by
        refine (brX_kept n true (s.go 1) _ (hs.goE hl)).trans (Nat.le_add_right _ _) ?_ (by show s.r.closed.length + _ ≤ _ + (s.r.at_ + 1); omega)
        rw [Nd.sizes_append]
        have : Nd.sizes [t] = t.size := by simp [Nd.sizes]
        show _ + 3 * s.r.at_ ≤ 3 * (s.r.at_ + 1) + _; omega
      split
      · exact hj
      · split
        · exact hone _ rfl
        · split
          · exact hone _ rfl
          · split
            · next hx =>
              have hf : (∃ e p, frtX l front s c = s.fail l e p) ∨ frtX l front s c = s := by
                unfold frtX
                split
                · exact .inl ⟨_, _, rfl⟩
                · split
                  · exact .inl ⟨_, _, rfl⟩
                  · exact .inr rfl
              rcases hf with ⟨e, p, hf⟩ | hf
              · rw [hf]; exact Kp.fail _ _ hs hs.le (by show 1 + 3 * s.r.at_ ≤ _; omega) rfl
              · rw [hf]; exact Kp.of hs (Nat.le_refl _) (by show 1 + 3 * s.r.at_ ≤ _; omega) rfl
            · obtain ⟨a1, a2⟩ := atomX_kept hC (c := c) hs h
              have b1 := repX_kept (l.length + 1) (atomX l C s c).2 (atomX l C s c).1 a1.sn
              have k1 := brX_kept (inner := inner) n false (repX l (l.length + 1) (atomX l C s c).2 (atomX l C s c).1).2 (ps ++ [(repX l (l.length + 1) (atomX l C s c).2 (atomX l C s c).1).1]) b1.sn
              have c1 := a1.at_; have c2 := b1.at_; have c3 := a1.sz; have c4 := b1.sz; have c5 := a1.cl; have c6 := b1.cl
              refine k1.trans (by omega) ?_ (by omega)
              rw [Nd.sizes_append]
              have : ∀ t : Nd, Nd.sizes [t] = t.size := fun t => by simp [Nd.sizes]
              rw [this]; omega
theorem branchX_kept {inner : Bool} {s : ES} (hs : Sane l s.r) : Kp l s (branchX l C inner s) 1 := brX_kept hC _ _ _ _ hs
theorem chLoopX_kept {inner : Bool} : ∀ (n : Nat) (s : ES) (ts : List Nd), Sane l s.r → Kp l s (chLoopX l C inner n s ts) (Nd.sizes ts + 1)
  | 0, s, ts, hs => by rw [chLoopX]; exact Kp.of hs (Nat.le_refl _) (by have := chosen_le ts; omega) rfl
  | n + 1, s, ts, hs => by
    rw [chLoopX]
    split
    · next e =>
      have hg := hs.goE (n := 1) (getE_lt e)
      have b1 := branchX_kept hC (inner := inner) hg
      have k1 := chLoopX_kept (inner := inner) n (branchX l C inner (s.go 1)).2 (ts ++ [(branchX l C inner (s.go 1)).1]) b1.sn
      have c2 := b1.at_; have c4 := b1.sz; have c6 := b1.cl
      have c2 : s.r.at_ + 1 ≤ _ := c2
      have c4 : _ + 3 * (s.r.at_ + 1) ≤ _ := c4
      have c6 : _ + (s.r.at_ + 1) ≤ s.r.closed.length + _ := c6
      refine k1.trans (by omega) ?_ (by omega)
      rw [Nd.sizes_append]
      have : ∀ t : Nd, Nd.sizes [t] = t.size := fun t => by simp [Nd.sizes]
      rw [this]; omega
    · exact Kp.of hs (Nat.le_refl _) (by have := chosen_le ts; omega) rfl
theorem choiceX_kept {inner : Bool} {s : ES} (hs : Sane l s.r) : Kp l s (choiceX l C inner s) 2 := by
  have b1 := branchX_kept hC (inner := inner) hs
  have k1 := chLoopX_kept hC (inner := inner) (l.length + 1) _ [(branchX l C inner s).1] b1.sn
  have c2 := b1.at_; have c4 := b1.sz; have c6 := b1.cl
  have : ∀ t : Nd, Nd.sizes [t] = t.size := fun t => by simp [Nd.sizes]
  exact k1.trans c2 (by rw [this]; omega) c6
end
theorem chX_kept {l : List UInt8} : ∀ n s, Sane l s.r → Kp l s (chX l n s) 2
  | 0, s, hs => by rw [chX]; exact choiceX_kept (fun f hf => by cases hf) hs
  | n + 1, s, hs => by rw [chX]; exact choiceX_kept (fun f hf => by injection hf with hf; subst hf; exact chX_kept n) hs
end Go.Proofs.YtmoeboknelnaoaaGreatDoor
