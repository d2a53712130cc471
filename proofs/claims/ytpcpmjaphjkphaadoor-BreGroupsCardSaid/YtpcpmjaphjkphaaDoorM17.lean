/-
  Merged texts of this claim: BreK, BreM, BreV.
-/
import Derived.Test.YtpcpmjaphjkphaaDoorM13
import Derived.Test.YtpcpmjaphjkphaaDoorM16

/-
  Walk of package bre: atom.
-/
namespace Go.Proofs.YtpcpmjaphjkphaaDoor
open Go.RowKit

abbrev CC2 (w : World) (b : Nat) (v0 v1 : Value) : Prop := w.cell? ⟨b, 0, none⟩ = some v0 ∧ w.cell? ⟨b, 1, none⟩ = some v1
theorem cc2_on {w w' : World} {b : Nat} {v0 v1 : Value} (h : CC2 w b v0 v1) (f : Fr nob w w') : CC2 w' b v0 v1 := ⟨f.cell h.1 (fun x => x), f.cell h.2 (fun x => x)⟩

set_option maxRecDepth 100000 in
set_option maxHeartbeats 1000000 in
theorem br_atom (b : Nat) (l : List UInt8) (W0 : World) (deep : Nat) (C : Option (RxS → Out Nd)) (s : RxS) (S O : Nat → Prop) (w : World) (x : UInt8) (hO : ∀ k, O k → k < w.heap.size) (hl : l.length ≤ 100000) (hd : deep ≤ 12) (hE0 : Env W0) (hG : GrAt l W0 deep C)
    (hs : Sane l s) (ha : s.at_ < l.length) (hx : l[s.at_] = x) (hW : Wd W0 S w) (h : Rdg b l s S w) :
    Calls Tryd.prog 69 #[.pointer (some ⟨b, 0, none⟩), .int .i64 deep] w fun y w' => OutAns4 b l S O w (atomS prg l C s x) y w' := by
  obtain ⟨R, hR⟩ : ∃ R, atomS prg l C s x = R := ⟨_, rfl⟩
  rw [hR]
  have hEsc := fun w' (f : Fr nob w w') (h92 : x = 92) => br_escape b l W0 deep C s S O w' (fun k hk => Nat.lt_of_lt_of_le (hO k hk) f.size) hl hd hG hs ha (by rw [hx, h92]) (hW.stp (Stp.of f)) (h.on f)
  obtain ⟨cv, mv, hB⟩ := h
  have rr := rule5 hB.blk
  have HEsc := Lib.hid hEsc; have HB := Lib.hid hB; have HW := Lib.hid hW
  have hal : (s.at_ : Int) < l.length := by omega
  have hxb := x.toNat_lt
  clear hEsc hG hs hW hB hd hO
  go_enter Tryd.func69, Tryd.ntmps69
  go_wp2_with fail
  refine region_fr 8 (by kernel_rfl) (by kernel_rfl) ?_
  simp only [List.take_succ_cons, List.take_zero, List.drop_succ_cons, List.drop_zero]
  repeat (quiet_step (fail))
  refine wpQuiet_nil ?_
  intro wC fC
  have hBC := HB.out.on fC
  obtain ⟨⟨k0, k1, _⟩, _, j1, _⟩ := rule5 hBC.blk _ (Fr.refl _ _)
  have HBC := Lib.hid hBC; have FC := Lib.hid fC
  clear rr hBC fC
  unfold atomS at hR
  by_cases h92 : x = 92
  · rw [if_pos h92] at hR
    have HE := Lib.hid (HEsc.out wC FC.out h92)
    have t1 : ((x.toNat : Int) == 92) = true := tb_eq (b := 92) h92
    rw [hR] at HE
    clear h92 hR
    go_wp2_with fail
    with_reducible refine (HE.out).mono ?_
    cases R with
    | inl z =>
      obtain ⟨z1, z2⟩ := z
      rintro e w2 ⟨rfl, S2, st2⟩
      exact ⟨rfl, rfl, S2, (Stp.of FC.out).trans st2⟩
    | inr z =>
      obtain ⟨t, s2⟩ := z
      rintro e w2 ⟨i, y, S2, rfl, rn2, r2, st2⟩
      have RN2 := Lib.hid rn2; have R2 := Lib.hid r2; have ST2 := Lib.hid ((Stp.of FC.out).trans st2); clear rn2 r2 st2
      go_wp2
      go_ret
      exact ⟨_, _, S2, rfl, RN2.out, R2.out, ST2.out⟩
  · rw [if_neg h92] at hR
    have t1 : ((x.toNat : Int) == 92) = false := tb_ne (b := 92) h92
    by_cases h91 : x = 91
    · rw [if_pos h91] at hR
      have t2 : ((x.toNat : Int) == 91) = true := tb_eq (b := 91) h91
      have hEnv : ∀ w', Fr nob wC w' → Env w' := fun w' f => hE0.on ((HW.out.fr.trans' FC.out).trans' f)
      have hP := fun w' (f : Fr nob wC w') => parse_all l ((s.at_ : Int) + 1) w' hl (hEnv w' f)
      rw [show ((s.at_ : Int) + 1) = ((s.at_ + 1 : Nat) : Int) from by simp, prz_in (by omega)] at hP
      rw [show ((s.at_ + 1 : Nat) : Int) = (s.at_ : Int) + 1 from by simp] at hP
      have hw : IntKind.i64.wrap ((s.at_ : Int) + 1) = s.at_ + 1 := IntWalk.i64_in _ (by omega)
      have hcc : CC2 wC b (.string ⟨l.toArray⟩) (.int .i64 s.at_) := ⟨k0, k1⟩
      have HC := Lib.hid hcc
      obtain ⟨P, hPP⟩ : ∃ P, prs l (s.at_ + 1) = P := ⟨_, rfl⟩
      rw [hPP] at hP hR
      obtain ⟨c, k, e0, hv, hcase⟩ : ∃ (c : S4) (k : Nat) (e0 : Int), prsV P = .tuple #[setV c, .int .i64 k, .int .i64 e0] ∧ ((e0 ≠ 0 ∧ R = .inl (e0, k)) ∨ (e0 = 0 ∧ R = .inr (.one c, s.to k))) := by
        cases P with
        | inl z => obtain ⟨z1, z2⟩ := z; exact ⟨S4.zero, z2, z1, rfl, .inl ⟨prs_err hPP, hR.symm⟩⟩
        | inr q => obtain ⟨c, k⟩ := q; exact ⟨c, k, 0, rfl, .inr ⟨rfl, hR.symm⟩⟩
      rw [hv] at hP
      have HP := Lib.hid hP; have HCS := Lib.hid hcase
      have rzA := rule4 (show (wC.alloc (.cells #[.int .u64 0, .int .u64 0, .int .u64 0, .int .u64 0] 37)).heap[wC.heap.size]? = some (.cells #[.int .u64 0, .int .u64 0, .int .u64 0, .int .u64 0] 37) from newAt0 wC _)
      have RZA := Lib.hid rzA
      clear hP hEnv k0 k1 j1 h91 h92 HEsc hcc hPP rzA hv hcase hR
      go_wp2_with fail
      go_region_held3 (fun w' => CC2 w' b (.string ⟨l.toArray⟩) (.int .i64 s.at_)) (first | (with_reducible exact HC.out) | (with_reducible exact cc2_on HC.out ((Fr.refl nob wC).drew)) | (with_reducible exact cc2_on HC.out (((Fr.refl nob wC).alloc _).drew)) | (with_reducible exact cc2_on HC.out (((Fr.refl nob wC).drew).alloc _)) | (with_reducible exact cc2_on HC.out G1) | (with_reducible exact cc2_on HC.out (G1.drew)) | (with_reducible exact cc2_on HC.out (G1.alloc _)) | (with_reducible exact cc2_on HC.out (setFour_frS G1 (Nat.le_refl _) _ _ _ _)) | (with_reducible exact cc2_on HC.out (setFour_frS (G1.alloc _) G1.size _ _ _ _)) | (trace_state; fail)) (first | (go_at_call 76; (first | ((with_reducible refine (HP.out _ ((Fr.refl nob wC).drew)).mono ?_); rintro e g1 ⟨rfl, f1⟩; have G1 : Fr nob wC g1 := ((Fr.refl nob wC).drew).trans' f1; have hz := newAt0 g1 (.cells #[.int .u64 0, .int .u64 0, .int .u64 0, .int .u64 0] 37); have HZ := Lib.hid hz; have rz := rule4 hz _ (Fr.refl nob _)) | ((with_reducible refine (HP.out _ (((Fr.refl nob wC).alloc _).drew)).mono ?_); rintro e g1 ⟨rfl, f1⟩; have G1 : Fr nob wC g1 := (((Fr.refl nob wC).alloc _).drew).trans' f1; have hz := (((Fr.refl nob _).drew).trans' f1).heap (newAt0 wC (.cells #[.int .u64 0, .int .u64 0, .int .u64 0, .int .u64 0] 37)) (fun x => x); have HZ := Lib.hid hz; have rz := RZA.out g1 (((Fr.refl nob _).drew).trans' f1))); clear f1 hz))
      · obtain ⟨wf, hwf⟩ : ∃ wf, wf = g1.alloc (.cells #[.int .u64 c.a, .int .u64 c.b, .int .u64 c.c, .int .u64 c.d] 37) := ⟨_, rfl⟩
        have hset : At4 wf g1.heap.size c := by rw [hwf]; exact newAt0 g1 _
        have hfr : Fr nob wC wf := by rw [hwf]; exact G1.alloc _
        rw [← hwf]
        have HF := Lib.hid hfr; have HSET := Lib.hid hset; have hge : wC.heap.size ≤ g1.heap.size := (G1.size)
        clear hwf hfr hset rz
        rcases HCS.out with ⟨hne, hR⟩ | ⟨hne, hR⟩
        · subst hR
          have hz' : ((e0 : Int) != 0) = true := by simpa using hne
          go_wp2_with (go_at_call 66; (with_reducible refine (br_fail e0 k _).mono ?_); rintro e w' ⟨rfl, rfl⟩)
          exact ⟨rfl, rfl, S, (Stp.of FC.out).trans (Stp.of HF.out)⟩
        · subst hR
          subst hne
          have hBf := HBC.out.on HF.out
          have hbl := lt_heap HBC.out.blk
          have hcl := lt_heap HSET.out
          have hnb : g1.heap.size ≠ b := by omega
          obtain ⟨⟨_, n1, _⟩, _, n2, _⟩ := rule5 hBf.blk _ (Fr.refl _ _)
          have HBf := Lib.hid hBf; clear hBf
          have hq6 : Q4 (wf.setCell ⟨b, 1, none⟩ (.int .i64 (k : Nat))) g1.heap.size c := by
            have g := (Fr.refl (fun i => i = b) wf).setCell (p := ⟨b, 1, none⟩) (fun _ => rfl) (.int .i64 (k : Nat))
            have q := Q4.of HSET.out
            exact ⟨g.cell q.1 hnb, g.cell q.2.1 hnb, g.cell q.2.2.1 hnb, g.cell q.2.2.2 hnb⟩
          go_wp2
          go_ret
          exact ⟨_, _, S, rfl, by rw [RN]; rfl, ⟨_, _, HBf.out.turned 1 _ (s.to k) (by simp [RxS.to]) rfl rfl⟩, ((Stp.of FC.out).trans (Stp.of HF.out)).trans (HBf.out.stp 1 _)⟩
      · obtain ⟨wf, hwf⟩ : ∃ wf, wf = ((((g1.setCell ⟨wC.heap.size, 0, none⟩ (.int .u64 c.a)).setCell ⟨wC.heap.size, 1, none⟩ (.int .u64 c.b)).setCell ⟨wC.heap.size, 2, none⟩ (.int .u64 c.c)).setCell ⟨wC.heap.size, 3, none⟩ (.int .u64 c.d)) := ⟨_, rfl⟩
        have hset : At4 wf wC.heap.size c := by rw [hwf]; with_reducible exact setFour_heap HZ.out _ _ _ _
        have hfr : Fr nob wC wf := by rw [hwf]; exact setFour_frS (G1) (Nat.le_refl _) _ _ _ _
        rw [← hwf]
        have HF := Lib.hid hfr; have HSET := Lib.hid hset; have hge : wC.heap.size ≤ wC.heap.size := (Nat.le_refl _)
        clear hwf hfr hset rz
        rcases HCS.out with ⟨hne, hR⟩ | ⟨hne, hR⟩
        · subst hR
          have hz' : ((e0 : Int) != 0) = true := by simpa using hne
          go_wp2_with (go_at_call 66; (with_reducible refine (br_fail e0 k _).mono ?_); rintro e w' ⟨rfl, rfl⟩)
          exact ⟨rfl, rfl, S, (Stp.of FC.out).trans (Stp.of HF.out)⟩
        · subst hR
          subst hne
          have hBf := HBC.out.on HF.out
          have hbl := lt_heap HBC.out.blk
          have hcl := lt_heap HSET.out
          have hnb : wC.heap.size ≠ b := by omega
          obtain ⟨⟨_, n1, _⟩, _, n2, _⟩ := rule5 hBf.blk _ (Fr.refl _ _)
          have HBf := Lib.hid hBf; clear hBf
          have hq6 : Q4 (wf.setCell ⟨b, 1, none⟩ (.int .i64 (k : Nat))) wC.heap.size c := by
            have g := (Fr.refl (fun i => i = b) wf).setCell (p := ⟨b, 1, none⟩) (fun _ => rfl) (.int .i64 (k : Nat))
            have q := Q4.of HSET.out
            exact ⟨g.cell q.1 hnb, g.cell q.2.1 hnb, g.cell q.2.2.1 hnb, g.cell q.2.2.2 hnb⟩
          go_wp2
          go_ret
          exact ⟨_, _, S, rfl, by rw [RN]; rfl, ⟨_, _, HBf.out.turned 1 _ (s.to k) (by simp [RxS.to]) rfl rfl⟩, ((Stp.of FC.out).trans (Stp.of HF.out)).trans (HBf.out.stp 1 _)⟩
    · rw [if_neg h91] at hR
      have t2 : ((x.toNat : Int) == 91) = false := tb_ne (b := 91) h91
      obtain ⟨w1, hw1⟩ : ∃ w1, w1 = wC.setCell ⟨b, 1, none⟩ (.int .i64 ((s.at_ : Int) + 1)) := ⟨_, rfl⟩
      have hB1 : Br b l (s.go 1) S cv mv w1 := by rw [hw1]; exact HBC.out.turned 1 _ (s.go 1) (by simp [RxS.go]) rfl rfl
      have hS1 : Stp S w S w1 := by rw [hw1]; exact (Stp.of FC.out).trans (HBC.out.stp 1 _)
      have hsz : w1.heap.size = wC.heap.size := by rw [hw1]; simp [World.setCell]
      have HW1 := Lib.hid hw1; have HB1 := Lib.hid hB1; have HS1 := Lib.hid hS1
      clear hw1 hB1 hS1 h92 h91 HEsc
      by_cases h46 : x = 46
      · rw [if_pos h46] at hR
        have t3 : ((x.toNat : Int) == 46) = true := tb_eq (b := 46) h46
        have hsp := span_lit 0 255 w1 (by decide) (by decide)
        rw [show ((0 : Nat) : Int) = 0 from rfl, show ((255 : Nat) : Int) = 255 from rfl] at hsp
        obtain ⟨u, hu⟩ : ∃ u, spn 0 255 = u := ⟨_, rfl⟩
        rw [hu] at hsp hR
        subst hR
        have HSP := Lib.hid hsp
        clear h46 hsp hu
        go_wp2_with (rw [← HW1.out])
        with_reducible refine (HSP.out).mono ?_
        rintro e w2 ⟨rfl, f2⟩
        have F2 := Lib.hid f2; clear f2
        go_wp2
        go_ret
        exact ⟨_, _, S, rfl, by unfold prg; rw [RN]; rfl, ⟨_, _, HB1.out.on F2.out⟩, HS1.out.trans (Stp.of F2.out)⟩
      · rw [if_neg h46] at hR
        have t3 : ((x.toNat : Int) == 46) = false := tb_ne (b := 46) h46
        have ho := of_one x w1 5
        obtain ⟨u, hu⟩ : ∃ u, spn x.toNat x.toNat = u := ⟨_, rfl⟩
        rw [hu, hsz] at ho
        rw [hu] at hR
        subst hR
        have HO := Lib.hid ho
        clear h46 ho hu
        go_wp2_with (rw [← HW1.out])
        with_reducible refine (HO.out).mono ?_
        rintro e w2 ⟨rfl, f2⟩
        have F2 := Lib.hid (((Fr.refl nob w1).alloc _).trans' f2); clear f2
        go_wp2
        go_ret
        exact ⟨_, _, S, rfl, by unfold prg; rw [RN]; rfl, ⟨_, _, HB1.out.on F2.out⟩, HS1.out.trans (Stp.of F2.out)⟩
end Go.Proofs.YtpcpmjaphjkphaaDoor

/-
  Walk of package bre: branch.
-/
namespace Go.Proofs.YtpcpmjaphjkphaaDoor
open Go.RowKit

/-! ### Rows of nodes beside a reader -/
def PO (O : Nat → Prop) (v : Value) : Nat → Prop := fun k => O k ∨ v.ownBlock = some k
/-- The parts read so far: a row that was not there in W. -/
def Pts (S O : Nat → Prop) (W w : World) (ps : List Nd) (v : Value) : Prop := OwnNS (SO S O) w ps v v.ownBlock ∧ ∀ k, v.ownBlock = some k → ¬ S k ∧ W.heap.size ≤ k
/-- Only blocks turn that a reading does not know, and W neither. -/
def Off (S : Nat → Prop) (W w w' : World) : Prop := ∃ X, Fr X w w' ∧ ∀ k, X k → ¬ S k ∧ W.heap.size ≤ k

theorem Pts.nil (S O : Nat → Prop) (W w : World) : Pts S O W w [] (.slice none 0 0) := ⟨OwnNS.nil _ _, fun _ h => by cases h⟩
theorem Pts.shape {S O : Nat → Prop} {W w : World} {ps : List Nd} {v : Value} (h : Pts S O W w ps v) : ∃ a c, v = .slice a ps.length c := h.1.shape
theorem Pts.stp {S O S' : Nat → Prop} {W w w' : World} {ps : List Nd} {v : Value} (h : Pts S O W w ps v) (hs : Stp S w S' w') : Pts S' O W w' ps v := by
  obtain ⟨h, hb⟩ := h
  have hlt := h.lt
  obtain ⟨vs, h1, h2, h3⟩ := h
  refine ⟨⟨vs, ownsRow_fr h1 hs.fr (fun k hk => (hb k hk).1), h2.keep hs.fr (fun k _ x => .inl (.inl x)) (fun k hk x => ?_), h3⟩, fun k hk => ⟨fun x => (hb k hk).1 (hs.old k (hlt k hk) x), (hb k hk).2⟩⟩
  rcases x with (x | x) | x
  · exact .inl (.inl (hs.old k hk x))
  · exact .inl (.inr x)
  · exact .inr x
theorem Pts.on {S O : Nat → Prop} {W w w' : World} {ps : List Nd} {v : Value} (h : Pts S O W w ps v) (f : Fr nob w w') : Pts S O W w' ps v := h.stp (Stp.of f)
theorem Pts.lt {S O : Nat → Prop} {W w : World} {ps : List Nd} {v : Value} (h : Pts S O W w ps v) (hO : ∀ k, O k → k < w.heap.size) : ∀ k, PO O v k → k < w.heap.size := fun k hk => hk.elim (hO k) (h.1.lt k)
theorem Pts.sn {S O : Nat → Prop} {W w : World} {ps : List Nd} {v : Value} (h : Pts S O W w ps v) (hO : ∀ k, O k → k < W.heap.size) : SN (SO S O) w ps v :=
  h.1.sn fun k hk x => x.elim (h.2 k hk).1 (fun y => by have := hO k y; have := (h.2 k hk).2; omega)

theorem Br.off {b : Nat} {l : List UInt8} {s : RxS} {S : Nat → Prop} {cv mv : Value} {W w w' : World} (h : Br b l s S cv mv w) (f : Off S W w w') : Br b l s S cv mv w' := by
  obtain ⟨X, f, hX⟩ := f
  exact ⟨f.heap h.blk (fun x => (hX _ x).1 h.me), ownsRow_fr h.cl f (fun k hk x => (hX _ x).1 (h.nc k hk).2), ownsRow_fr h.ma f (fun k hk x => (hX _ x).1 (h.nm k hk).2), h.nc, h.nm, h.ne, h.me⟩
theorem Rdg.off {b : Nat} {l : List UInt8} {s : RxS} {S : Nat → Prop} {W w w' : World} (h : Rdg b l s S w) (f : Off S W w w') : Rdg b l s S w' := by
  obtain ⟨cv, mv, h⟩ := h; exact ⟨cv, mv, h.off f⟩
theorem Stp.off {S0 S : Nat → Prop} {W w w' : World} (h : Stp S0 W S w) (f : Off S W w w') : Stp S0 W S w' := by
  obtain ⟨X, f, hX⟩ := f
  exact ⟨h.fr.trans f (fun i hi x => by have := (hX i x).2; omega), h.old, fun hl k hk => Nat.lt_of_lt_of_le (h.lt hl k hk) f.size⟩
theorem Off.size {S : Nat → Prop} {W w w' : World} (f : Off S W w w') : w.heap.size ≤ w'.heap.size := by obtain ⟨X, f, _⟩ := f; exact f.size

theorem wpList_append_pts {W w0 : World} {S O : Nat → Prop} {ops : Array Oper} {rest : List Oper} {o : Oper} {a : Act} {Q : Exit → Act → World → Prop} (hgd : o.guard = none) (s x : Operand)
    (ho : o.op = .call { callee := .builtin .append, args := #[s, x], argTypes := #[63, 63] })
    (ps : List Nd) (t : Nd) (v val : Value) (e : TypeId) (b : Nat) (hs : a.eval s = v) (hp : Pts S O W w0 ps v) (hlt : ∀ k, S k → k < w0.heap.size) (hO : ∀ k, O k → k < w0.heap.size) (hW : W.heap.size ≤ w0.heap.size) (hb : b = w0.heap.size)
    (hx : a.eval x = .slice (some ⟨b, 0, none⟩) 1 1) (hv : RN (SO S (PO O v)) w0 t val) (hl : ps.length ≤ 2000000)
    (h : ∀ v' w', Pts S O W w' (ps ++ [t]) v' → Off S W w0 w' → wpList Tryd.prog ops Q rest (a.put o.dst v') w') : wpList Tryd.prog ops Q (o :: rest) a (w0.alloc (.cells #[val] e)) := by
  have hv' : RN (LGS (SO S O) v.ownBlock) w0 t val := RN.keep (Fr.refl nob w0) (fun _ _ x => x.elim) (fun k _ x => by
    rcases x with (x | x) | x
    · exact .inl x
    · exact .inr (.inl x)
    · exact .inr (.inr x)) _ _ hv
  have hsn : SN (LGS (SO S O) v.ownBlock) (w0.alloc (.cells #[val] e)) [t] (.slice (some ⟨b, 0, none⟩) 1 1) := SN.one' hv' (fun k x => by
    rcases x with (x | x) | x
    · exact hlt k x
    · exact hO k x
    · exact hp.1.lt k x) e hb
  have hown := hp.1.on ((Fr.refl nob w0).alloc (.cells #[val] e))
  refine wpList_append_snS hgd s x ho ps [t] v _ v.ownBlock hs hown hx hsn (by simp; omega) fun v' w' g' q1 q2 q3 => ?_
  have hg' : v'.ownBlock = g' := q1.blk
  subst hg'
  have hal : w0.heap.size ≤ (w0.alloc (.cells #[val] e)).heap.size := ((Fr.refl nob w0).alloc _).size
  refine h v' w' ⟨q1, fun k hk => ?_⟩ ⟨LG v.ownBlock, ((Fr.refl (LG v.ownBlock) w0).alloc _).trans' q2, fun k hk => hp.2 k hk⟩
  rcases q3 k hk with hk | hk
  · exact hp.2 k hk
  · refine ⟨fun x => by have := hlt k x; omega, ?_⟩
    exact Nat.le_trans (Nat.le_trans hW hal) hk

/-! ### What a branch's parts are -/
def Nd.unit : Nd → Bool
  | .one _ | .rep .. | .group .. | .back _ | .start | .fin => true
  | _ => false
def units (ps : List Nd) : Prop := ∀ t ∈ ps, t.unit = true
theorem units.snoc {ps : List Nd} {t : Nd} (h : units ps) (ht : t.unit = true) : units (ps ++ [t]) := fun x hx => by
  rcases List.mem_append.1 hx with hx | hx
  · exact h x hx
  · rw [List.mem_singleton.1 hx]; exact ht
theorem unit_part {t : Nd} (h : t.unit = true) : t.part = [t] := by cases t <;> first | rfl | cases h
theorem units_parts {ps : List Nd} (h : units ps) : parts ps = ps := by
  induction ps with
  | nil => rfl
  | cons t ts ih =>
    show t.part ++ parts ts = _
    rw [unit_part (h t (by simp)), ih (fun x hx => h x (by simp [hx]))]; rfl
/-- What a branch is. -/
def Nd.brn : Nd → Prop
  | .empty => True
  | .cat l => 1 < l.length ∧ units l
  | t => t.unit = true
theorem joined_brn {ps : List Nd} (h : units ps) : (joined ps).brn := by
  unfold joined
  rw [units_parts h]
  match ps, h with
  | [], _ => trivial
  | [x], h =>
    have := h x (by simp)
    show x.brn
    cases x <;> first | exact this | cases this
  | x :: y :: r, h => exact ⟨by simp, h⟩
theorem brn_arm {t : Nd} (h : t.brn) : t.arm = [t] := by cases t <;> first | rfl | cases h
def brns (ts : List Nd) : Prop := ∀ t ∈ ts, t.brn
theorem brns.snoc {ts : List Nd} {t : Nd} (h : brns ts) (ht : t.brn) : brns (ts ++ [t]) := fun x hx => by
  rcases List.mem_append.1 hx with hx | hx
  · exact h x hx
  · rw [List.mem_singleton.1 hx]; exact ht
theorem brns_arms {ts : List Nd} (h : brns ts) : arms ts = ts := by
  induction ts with
  | nil => rfl
  | cons t r ih =>
    show t.arm ++ arms r = _
    rw [brn_arm (h t (by simp)), ih (fun x hx => h x (by simp [hx]))]; rfl
theorem chosen_brns {ts : List Nd} (h : brns ts) : chosen ts = onlyOf ts (.alt ts) := by unfold chosen; rw [brns_arms h]
theorem chosen_nil {ts : List Nd} (h : brns ts) : chosen ts ≠ .nil := by
  rw [chosen_brns h]
  match ts, h with
  | [], _ => intro e; cases e
  | [x], h => intro e; have := h x (by simp); rw [show x = Nd.nil from e] at this; cases this
  | x :: y :: r, _ => intro e; cases e

theorem repS_unit {l : List UInt8} : ∀ (n : Nat) (s : RxS) (t t' : Nd) (s' : RxS), t.unit = true → repS prg l n s t = .inr (t', s') → t'.unit = true
  | 0, s, t, t', s', ht, h => by rw [repS] at h; injection h with h; injection h with h1 h2; subst h1; exact ht
  | n + 1, s, t, t', s', ht, h => by
    rw [repS] at h
    split at h
    · exact repS_unit n _ _ _ _ (by rfl) h
    · split at h
      · exact repS_unit n _ _ _ _ (by rfl) h
      · split at h
        · split at h
          · cases h
          · exact repS_unit n _ _ _ _ (by rfl) h
        · split at h
          · exact repS_unit n _ _ _ _ (by rfl) h
          · injection h with h; injection h with h1 h2; subst h1; exact ht
theorem groupS_unit {l : List UInt8} {C : Option (RxS → Out Nd)} {p : Nat} {s s' : RxS} {t : Nd} (h : groupS prg l C p s = .inr (t, s')) : t.unit = true := by
  unfold groupS at h
  split at h
  · cases h
  · split at h
    · cases h
    · split at h
      · injection h with h; injection h with h1 h2; subst h1; rfl
      · cases h
theorem atomS_unit {l : List UInt8} {C : Option (RxS → Out Nd)} {s s' : RxS} {t : Nd} {b : UInt8} (h : atomS prg l C s b = .inr (t, s')) : t.unit = true := by
  unfold atomS at h
  split at h
  · unfold escS at h
    split at h
    · cases h
    · split at h
      · exact groupS_unit h
      · split at h
        · cases h
        · split at h
          · split at h
            · injection h with h; injection h with h1 h2; subst h1; rfl
            · cases h
          · split at h
            · cases h
            · injection h with h; injection h with h1 h2; subst h1; rfl
  · split at h
    · split at h
      · cases h
      · injection h with h; injection h with h1 h2; subst h1; rfl
    · split at h
      · injection h with h; injection h with h1 h2; subst h1; rfl
      · injection h with h; injection h with h1 h2; subst h1; rfl
theorem rndS_unit {l : List UInt8} {C : Option (RxS → Out Nd)} {s s' : RxS} {t : Nd} {b : UInt8} (h : rndS l C s b = .inr (t, s')) : t.unit = true := by
  unfold rndS at h
  split at h
  · cases h
  · next hp => exact repS_unit _ _ _ _ _ (atomS_unit hp) h
theorem brS_brn {l : List UInt8} {C : Option (RxS → Out Nd)} {inner : Bool} : ∀ (n : Nat) (front : Bool) (s : RxS) (ps : List Nd) (t : Nd) (s' : RxS), units ps → brS prg l C inner n front s ps = .inr (t, s') → t.brn
  | 0, front, s, ps, t, s', hu, h => by rw [brS] at h; injection h with h; injection h with h1 h2; subst h1; exact joined_brn hu
  | n + 1, front, s, ps, t, s', hu, h => by
    by_cases hl : s.at_ < l.length
    · cases h1 : (ahd l s.at_ [92, 124] || (inner && ahd l s.at_ [92, 41])) with
      | true => rw [brS_stop hl h1] at h; injection h with h; injection h with h1 h2; subst h1; exact joined_brn hu
      | false =>
        cases h2 : (front && (ahd l s.at_ [92, 123] || (ahd l s.at_ [92, 43] || ahd l s.at_ [92, 63]))) with
        | true => rw [brS_bad hl h1 h2] at h; cases h
        | false =>
          cases h3 : (ahd l s.at_ [36] && lastS l s.at_) with
          | true => rw [brS_fin hl h1 h2 h3] at h; exact brS_brn n _ _ _ _ _ (hu.snoc (by rfl)) h
          | false =>
            rw [brS_go hl h1 h2 h3] at h
            cases hr : rndS l C s l[s.at_] with
            | inl e => rw [hr] at h; cases h
            | inr z =>
              obtain ⟨t1, s1⟩ := z
              rw [hr] at h
              exact brS_brn n _ _ _ _ _ (hu.snoc (rndS_unit hr)) h
    · rw [brS_over (by omega)] at h; injection h with h; injection h with h1 h2; subst h1; exact joined_brn hu
theorem branchS_brn {l : List UInt8} {C : Option (RxS → Out Nd)} {inner : Bool} {s s' : RxS} {t : Nd} (h : branchS prg l C inner s = .inr (t, s')) : t.brn := by
  unfold branchS at h
  split at h
  · exact brS_brn _ _ _ _ _ _ (fun x hx => by rw [List.mem_singleton.1 hx]; rfl) h
  · exact brS_brn _ _ _ _ _ _ (fun x hx => by cases hx) h
theorem brn_nil {t : Nd} (h : t.brn) : t ≠ .nil := by rintro rfl; cases h
theorem RN.kind' {S : Nat → Prop} {w : World} {t : Nd} {v : Value} (h : RN S w t v) : t = .nil ∨ ∃ i x, v = .iface i x := by
  cases t with
  | nil => exact .inl rfl
  | _ => exact .inr (by rcases h.shape with e | e <;> first | exact e | (subst e; rw [RN] at h; first | (obtain ⟨_, h, _⟩ := h; cases h; done) | (cases h; done)))
theorem RN.some {S : Nat → Prop} {w : World} {t : Nd} {v : Value} (h : RN S w t v) (ht : t ≠ .nil) : ∃ i x, v = .iface i x := by
  rcases h.kind' with h | h
  · exact absurd h ht
  · exact h
end Go.Proofs.YtpcpmjaphjkphaaDoor

/-
  A basic regex in plain words: a regex within a text. No walk.
-/
namespace Go.Proofs.YtpcpmjaphjkphaaDoor
open Go.RowKit

/-! ### Groups of greater numbers -/
mutual
def Nd.turn (o : Int) : Nd → Nd
  | .cat l => .cat (Nd.turns o l)
  | .alt l => .alt (Nd.turns o l)
  | .rep x a b => .rep (x.turn o) a b
  | .group n x => .group (n + o) (x.turn o)
  | .nil => .nil
  | .empty => .empty
  | .one s => .one s
  | .back n => .back n
  | .start => .start
  | .fin => .fin
def Nd.turns (o : Int) : List Nd → List Nd
  | [] => []
  | t :: ts => t.turn o :: Nd.turns o ts
end
theorem Nd.turns_eq (o : Int) (l : List Nd) : Nd.turns o l = l.map (Nd.turn o) := by
  induction l with
  | nil => rfl
  | cons t ts ih => simp only [Nd.turns, List.map_cons, ih]
theorem Nd.turns_append (o : Int) (l m : List Nd) : Nd.turns o (l ++ m) = Nd.turns o l ++ Nd.turns o m := by simp only [Nd.turns_eq, List.map_append]
theorem Nd.turns_length (o : Int) (l : List Nd) : (Nd.turns o l).length = l.length := by simp only [Nd.turns_eq, List.length_map]
theorem unit_turn (o : Int) (t : Nd) : (t.turn o).unit = t.unit := by cases t <;> rfl
theorem units_turns {o : Int} {ps : List Nd} (h : units ps) : units (Nd.turns o ps) := fun x hx => by
  rw [Nd.turns_eq] at hx
  obtain ⟨y, hy, rfl⟩ := List.mem_map.1 hx
  rw [unit_turn]; exact h y hy
theorem brn_turn {o : Int} {t : Nd} (h : t.brn) : (t.turn o).brn := by
  cases t with
  | cat l => exact ⟨by rw [Nd.turns_length]; exact h.1, units_turns h.2⟩
  | nil => cases h
  | alt l => cases h
  | empty => trivial
  | _ => exact h
theorem brns_turns {o : Int} {ts : List Nd} (h : brns ts) : brns (Nd.turns o ts) := fun x hx => by
  rw [Nd.turns_eq] at hx
  obtain ⟨y, hy, rfl⟩ := List.mem_map.1 hx
  exact brn_turn (h y hy)
theorem joined_units {ps : List Nd} (h : units ps) : joined ps = onlyOf ps (.cat ps) := by unfold joined; rw [units_parts h]
theorem joined_turn {o : Int} {ps : List Nd} (h : units ps) : joined (Nd.turns o ps) = (joined ps).turn o := by
  rw [joined_units h, joined_units (units_turns h)]
  match ps with
  | [] => rfl
  | [x] => rfl
  | x :: y :: r => rfl
theorem chosen_turn {o : Int} {ts : List Nd} (h : brns ts) : chosen (Nd.turns o ts) = (chosen ts).turn o := by
  rw [chosen_brns h, chosen_brns (brns_turns h)]
  match ts with
  | [] => rfl
  | [x] => rfl
  | x :: y :: r => rfl
theorem joined_backs {ps : List Nd} (h : units ps) : (joined ps).backs = Nd.backss ps := by
  rw [joined_units h]
  match ps with
  | [] => rfl
  | [x] => simp [onlyOf, Nd.backss]
  | x :: y :: r => rfl
theorem joined_deep {ps : List Nd} (h : units ps) : (joined ps).deep = Nd.deeps ps := by
  rw [joined_units h]
  match ps with
  | [] => rfl
  | [x] => simp [onlyOf, Nd.deeps]
  | x :: y :: r => rfl
theorem joined_groups {ps : List Nd} (h : units ps) : (joined ps).groups = Nd.groupss ps := by
  rw [joined_units h]
  match ps with
  | [] => rfl
  | [x] => simp [onlyOf, Nd.groupss]
  | x :: y :: r => rfl
theorem chosen_backs {ts : List Nd} (h : brns ts) : (chosen ts).backs = Nd.backss ts := by
  rw [chosen_brns h]
  match ts with
  | [] => rfl
  | [x] => simp [onlyOf, Nd.backss]
  | x :: y :: r => rfl
theorem chosen_deep {ts : List Nd} (h : brns ts) : (chosen ts).deep = Nd.deeps ts := by
  rw [chosen_brns h]
  match ts with
  | [] => rfl
  | [x] => simp [onlyOf, Nd.deeps]
  | x :: y :: r => rfl
theorem chosen_groups {ts : List Nd} (h : brns ts) : (chosen ts).groups = Nd.groupss ts := by
  rw [chosen_brns h]
  match ts with
  | [] => rfl
  | [x] => simp [onlyOf, Nd.groupss]
  | x :: y :: r => rfl
theorem backss_snoc (ps : List Nd) (t : Nd) : Nd.backss (ps ++ [t]) = (Nd.backss ps || t.backs) := by
  simp only [Nd.backss_eq, List.any_append, List.any_cons, List.any_nil, Bool.or_false]
theorem deeps_snoc (ps : List Nd) (t : Nd) : Nd.deeps (ps ++ [t]) = max (Nd.deeps ps) t.deep := by
  rw [Nd.deeps_append]; simp [Nd.deeps]
theorem groupss_snoc (ps : List Nd) (t : Nd) : Nd.groupss (ps ++ [t]) = Nd.groupss ps + t.groups := by
  rw [Nd.groupss_append]; simp [Nd.groupss]

/-! ### A text within another -/
/-- What may stand behind. -/
def Tail (q : List UInt8) : Prop := q = [] ∨ (∃ r, q = 92 :: 41 :: r) ∨ ∃ r, q = 92 :: 124 :: r
/-- The state, within the other text. -/
def RxS.sh (P o : Nat) (c0 : List Nat) (m0 : List (Nat × List UInt8)) (s : RxS) : RxS :=
  ⟨P + s.at_, s.opened + o, c0 ++ s.closed.map (· + o), m0 ++ s.marks.map fun m => (P + m.1, m.2)⟩
section
variable {P o : Nat} {c0 : List Nat} {m0 : List (Nat × List UInt8)} (s : RxS)
theorem sh_go (n : Nat) : (s.go n).sh P o c0 m0 = (s.sh P o c0 m0).go n := by simp [RxS.sh, RxS.go, Nat.add_assoc]
theorem sh_to (n : Nat) : (s.to n).sh P o c0 m0 = (s.sh P o c0 m0).to (P + n) := by simp [RxS.sh, RxS.to]
theorem sh_mark (t : List UInt8) : (s.mark t).sh P o c0 m0 = (s.sh P o c0 m0).mark t := by simp [RxS.sh, RxS.mark]
theorem sh_at : (s.sh P o c0 m0).at_ = P + s.at_ := rfl
end
section
variable {p l q : List UInt8}
theorem cx_drop {k : Nat} (hk : k ≤ l.length) : (p ++ (l ++ q)).drop (p.length + k) = l.drop k ++ q := by
  rw [drop_sh, List.drop_append_of_le_length hk]
theorem cx_ahd1 (hq : Tail q) {k : Nat} {c : UInt8} (hk : k ≤ l.length) (hc : c ≠ 92) : ahd (p ++ (l ++ q)) (p.length + k) [c] = ahd l k [c] := by
  unfold ahd
  rw [cx_drop hk]
  cases l.drop k with
  | nil => rcases hq with rfl | ⟨r, rfl⟩ | ⟨r, rfl⟩ <;> simp [List.isPrefixOf, hc]
  | cons a r => simp [List.isPrefixOf]
theorem cx_ahd2 (hq : Tail q) {k : Nat} {c : UInt8} (hk : k ≤ l.length) (hc : c ≠ 92) (h : k < l.length ∨ (c ≠ 41 ∧ c ≠ 124)) : ahd (p ++ (l ++ q)) (p.length + k) [92, c] = ahd l k [92, c] := by
  unfold ahd
  rw [cx_drop hk]
  cases hd : l.drop k with
  | nil =>
    have : ¬ k < l.length := fun hlt => by rw [List.drop_eq_getElem_cons hlt] at hd; cases hd
    obtain ⟨h1, h2⟩ := h.resolve_left this
    rcases hq with rfl | ⟨r, rfl⟩ | ⟨r, rfl⟩ <;> simp [List.isPrefixOf, h1, h2]
  | cons a r =>
    cases r with
    | nil => rcases hq with rfl | ⟨r, rfl⟩ | ⟨r, rfl⟩ <;> simp [List.isPrefixOf, hc]
    | cons b r => simp [List.isPrefixOf]
theorem cx_get {k : Nat} (hk : k < l.length) : (p ++ (l ++ q))[p.length + k]? = some l[k] := by
  rw [get_sh, List.getElem?_append_left hk, List.getElem?_eq_getElem hk]
theorem cx_last (hq : Tail q) {k : Nat} (hk : k < l.length) : lastS (p ++ (l ++ q)) (p.length + k) = lastS l k := by
  unfold lastS
  rw [show p.length + k + 1 = p.length + (k + 1) from by omega]
  by_cases h1 : k + 1 < l.length
  · rw [cx_ahd2 hq (Nat.le_of_lt h1) (by decide) (.inl h1), cx_ahd2 hq (Nat.le_of_lt h1) (by decide) (.inl h1), cx_drop (Nat.le_of_lt h1)]
    have : (l.drop (k + 1)).isEmpty = false := by rw [List.drop_eq_getElem_cons h1]; rfl
    rw [List.drop_eq_getElem_cons h1]; rfl
  · have he : l.drop (k + 1) = [] := List.drop_eq_nil_of_le (by omega)
    unfold ahd
    rw [cx_drop (by omega), he]
    rcases hq with rfl | ⟨r, rfl⟩ | ⟨r, rfl⟩ <;> simp [List.isPrefixOf]
theorem cx_num (hq : Tail q) : ∀ (r : List UInt8) (c n : Nat), num3 (r ++ q) c n = num3 r c n
  | [], c, n => by
    rcases hq with rfl | ⟨r, rfl⟩ | ⟨r, rfl⟩
    · rfl
    · rw [List.nil_append]; show num3 (92 :: _) c n = (n, c); rw [num3, if_neg (fun h => by have := h.2.1; simp at this)]
    · rw [List.nil_append]; show num3 (92 :: _) c n = (n, c); rw [num3, if_neg (fun h => by have := h.2.1; simp at this)]
  | x :: r, c, n => by
    rw [List.cons_append, num3, num3]
    split
    · exact cx_num hq r _ _
    · rfl
theorem cx_itv (hq : Tail q) {m0 x0 : Int} {j : Nat} {k' : Nat} (hk : k' ≤ l.length) (h : itvB l k' = some (m0, x0, j)) : itvB (p ++ (l ++ q)) (p.length + k') = some (m0, x0, p.length + j) := by
  obtain ⟨m, c, hM⟩ : ∃ m c, num3 (l.drop k') 0 0 = (m, c) := ⟨_, _, rfl⟩
  have hb := num3_bd l k' hk
  rw [hM] at hb
  have hb3 : k' + c ≤ l.length := hb.2.2
  have hM' : num3 ((p ++ (l ++ q)).drop (p.length + k')) 0 0 = (m, c) := by rw [cx_drop hk, cx_num hq, hM]
  by_cases hc : c = 0
  · subst hc; rw [itvB_zero hM] at h; cases h
  · have a1 : ahd (p ++ (l ++ q)) (p.length + k' + c) [44] = ahd l (k' + c) [44] := by rw [Nat.add_assoc]; exact cx_ahd1 hq hb3 (by decide)
    cases ha : ahd l (k' + c) [44] with
    | false =>
      rw [ha] at a1
      have a2 : ahd (p ++ (l ++ q)) (p.length + k' + c) [92, 125] = ahd l (k' + c) [92, 125] := by rw [Nat.add_assoc]; exact cx_ahd2 hq hb3 (by decide) (.inr (by decide))
      rw [itvB_one hM hc ha] at h
      rw [itvB_one hM' hc a1, a2]
      split at h
      · cases h
      · next hn => rw [if_neg hn]; injection h with h; injection h with h1 h2; injection h2 with h2 h3; subst h1; subst h2; subst h3; simp only [Nat.add_assoc]
    | true =>
      rw [ha] at a1
      have hle := ahd_le ha (by decide)
      simp only [List.length_singleton] at hle
      obtain ⟨y, d, hX⟩ : ∃ y d, num3 (l.drop (k' + c + 1)) 0 0 = (y, d) := ⟨_, _, rfl⟩
      have hb2 := num3_bd l (k' + c + 1) hle
      rw [hX] at hb2
      have hb4 : k' + c + 1 + d ≤ l.length := hb2.2.2
      have hX' : num3 ((p ++ (l ++ q)).drop (p.length + k' + c + 1)) 0 0 = (y, d) := by rw [show p.length + k' + c + 1 = p.length + (k' + c + 1) from by omega, cx_drop hle, cx_num hq, hX]
      by_cases hd : d = 0
      · subst hd
        have a2 : ahd (p ++ (l ++ q)) (p.length + k' + c + 1) [92, 125] = ahd l (k' + c + 1) [92, 125] := by rw [show p.length + k' + c + 1 = p.length + (k' + c + 1) from by omega]; exact cx_ahd2 hq hle (by decide) (.inr (by decide))
        rw [itvB_open hM hc ha hX] at h
        rw [itvB_open hM' hc a1 hX', a2]
        split at h
        · cases h
        · next hn => rw [if_neg hn]; injection h with h; injection h with h1 h2; injection h2 with h2 h3; subst h1; subst h2; subst h3; simp only [Nat.add_assoc]
      · have a2 : ahd (p ++ (l ++ q)) (p.length + k' + c + 1 + d) [92, 125] = ahd l (k' + c + 1 + d) [92, 125] := by rw [show p.length + k' + c + 1 + d = p.length + (k' + c + 1 + d) from by omega]; exact cx_ahd2 hq hb4 (by decide) (.inr (by decide))
        rw [itvB_two hM hc ha hX hd] at h
        rw [itvB_two hM' hc a1 hX' hd, a2]
        split at h
        · cases h
        · next hn => rw [if_neg hn]; injection h with h; injection h with h1 h2; injection h2 with h2 h3; subst h1; subst h2; subst h3; simp only [Nat.add_assoc]
theorem cx_prs {k : Nat} {c : S4} {j : Nat} (h : prs l k = .inr (c, j)) : prs (p ++ (l ++ q)) (p.length + k) = .inr (c, p.length + j) := by
  rw [prs_sh, prs_app q h]; rfl
end
end Go.Proofs.YtpcpmjaphjkphaaDoor
