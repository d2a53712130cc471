/-
  Merged texts of this claim: EreA, EreB, EreC.
-/
import Derived.Test.YtmoeboknelnaoaaGreatDoorM14
import Derived.Test.YtmoeboknelnaoaaGreatDoorM15
import Derived.Test.YtmoeboknelnaoaaGreatDoorM21
import Derived.Test.YtmoeboknelnaoaaGreatDoorM22

/-
  The reader of package ere in memory; walks of behind, next, take, fail.
-/
namespace Go.Proofs.YtmoeboknelnaoaaGreatDoor
open Go.RowKit

def runes (l : List UInt8) : List Value := l.map fun c => .int .i32 (c.toNat : Int)
def eX (x : Option (Int × Nat)) : Int := match x with | none => 0 | some z => z.1
def pX (x : Option (Int × Nat)) : Int := match x with | none => 0 | some z => (z.2 : Int)
abbrev erC (l : List UInt8) (s : ES) (sv : Value) (m : Nat) (mv : Value) : Array Value :=
  #[.string ⟨l.toArray⟩, sv, .int .i64 s.r.at_, .int .i64 s.r.opened, .map (some m), mv, .int .i64 (eX s.x), .int .i64 (pX s.x)]

/-- The blocks that a reading turns: the reader's, the map's, the marks' row. -/
structure Er (b : Nat) (l : List UInt8) (s : ES) (S : Nat → Prop) (sv : Value) (m : Nat) (mv : Value) (w : World) : Prop where
  blk : w.heap[b]? = some (.cells (erC l s sv m mv) 180 (0, 0))
  sg : w.ownsRow 0 21 1 sv l.length (runes l)
  mp : IMap w m s.r.closed
  ma : OwM w s.r.marks mv
  nm : ∀ k, mv.ownBlock = some k → k ≠ b ∧ k ≠ m ∧ S k
  bm : b ≠ m
  ns : ∀ k, sv.ownBlock = some k → k < b ∧ ¬ S k
  me : S b
  mm : S m
  ok : ∀ z, s.x = some z → z.1 ≠ 0
def Erd (b : Nat) (l : List UInt8) (s : ES) (S : Nat → Prop) (w : World) : Prop := ∃ sv m mv, Er b l s S sv m mv w

section
variable {b : Nat} {l : List UInt8} {s : ES} {S : Nat → Prop} {sv : Value} {m : Nat} {mv : Value} {w w' : World}
theorem Er.on (h : Er b l s S sv m mv w) (f : Fr nob w w') : Er b l s S sv m mv w' :=
  ⟨f.heap h.blk (fun x => x), ownsRow_fr h.sg f (fun _ _ x => x), h.mp.fr f (fun x => x), ownsRow_fr h.ma f (fun _ _ x => x), h.nm, h.bm, h.ns, h.me, h.mm, h.ok⟩
theorem Erd.on (h : Erd b l s S w) (f : Fr nob w w') : Erd b l s S w' := by obtain ⟨sv, m, mv, h⟩ := h; exact ⟨sv, m, mv, h.on f⟩
/-- A cell of the reader turned. -/
theorem Er.turned (h : Er b l s S sv m mv w) (j : Nat) (u : Value) (s' : ES) (hj : (erC l s sv m mv).setIfInBounds j u = erC l s' sv m mv) (hc : s'.r.closed = s.r.closed) (hm : s'.r.marks = s.r.marks) (hx : ∀ z, s'.x = some z → z.1 ≠ 0) :
    Er b l s' S sv m mv (w.setCell ⟨b, j, none⟩ u) := by
  have hf := (Fr.refl (fun k => k = b) w).setCell (p := ⟨b, j, none⟩) (fun _ => rfl) u
  have hb := heap_setCell_at h.blk j u
  rw [hj] at hb
  exact ⟨hb, ownsRow_fr h.sg hf (fun k hk e => (h.ns k hk).2 (by rw [e]; exact h.me)), by rw [hc]; exact h.mp.fr hf (fun e => h.bm e.symm), by rw [hm]; exact ownsRow_fr h.ma hf (fun k hk e => (h.nm k hk).1 e), h.nm, h.bm,
    h.ns, h.me, h.mm, hx⟩
theorem Er.stp (h : Er b l s S sv m mv w) (j : Nat) (u : Value) : Stp S w S (w.setCell ⟨b, j, none⟩ u) :=
  ⟨(Fr.refl S w).setCell (p := ⟨b, j, none⟩) (fun _ => h.me) u, fun _ _ x => x, fun hl k hk => by have := hl k hk; simpa [World.setCell] using this⟩
/-- The sign at a place. -/
theorem Er.sign (h : Er b l s S sv m mv w) {k : Nat} {c : UInt8} (hk : l[k]? = some c) : ∃ g cap, sv = .slice (some ⟨g, 0, none⟩) l.length cap ∧ ∀ w', Fr nob w w' → w'.cell? ⟨g, k, none⟩ = some (.int .i32 (c.toNat : Int)) := by
  obtain ⟨hl, hs⟩ := h.sg
  rcases hs with ⟨rfl, h0⟩ | ⟨g, cap, cur, rfl, _, hr, hn, _, _, htake⟩
  · rw [List.length_eq_zero_iff.1 h0] at hk; cases hk
  · refine ⟨g, cap, rfl, fun w' f => f.cell (cell_at hr ?_) (fun x => x)⟩
    have : (cur.toList.take (l.length * 1))[k]? = (runes l)[k]? := by rw [htake]
    rw [List.getElem?_take, if_pos (by have := getE_lt hk; omega)] at this
    rw [← Array.getElem?_toList, this]
    simp [runes, hk]
end
def rnX (o : Option UInt8) : Int := match o with | none => -1 | some c => (c.toNat : Int)

set_option maxRecDepth 100000 in
theorem er_behind (b : Nat) (l : List UInt8) (s : ES) (S : Nat → Prop) (n : Nat) (w : World) (hl : l.length ≤ 100000) (ha : s.r.at_ ≤ l.length) (hn : n ≤ 10) (h : Erd b l s S w) :
    Calls Tryz.prog 140 #[.pointer (some ⟨b, 0, none⟩), .int .i64 n] w fun x w' => x = .returned (.int .i32 (rnX l[s.r.at_ + n]?)) ∧ Fr nob w w' := by
  obtain ⟨sv, m, mv, h⟩ := h
  have rr := rule8 h.blk
  cases hk : l[s.r.at_ + n]? with
  | none =>
    have hge : (l.length : Int) ≤ (s.r.at_ : Int) + n := by have := List.getElem?_eq_none_iff.1 hk; omega
    obtain ⟨a, c, rfl⟩ := ownsRow_slice h.sg
    clear h hk
    go_enter Tryz.func140, Tryz.ntmps140
    go_wp2_with fail
    refine region_fr 11 (by kernel_rfl) (by kernel_rfl) ?_
    simp only [List.take_succ_cons, List.take_zero, List.drop_succ_cons, List.drop_zero]
    repeat (quiet_step (fail))
    refine wpQuiet_nil ?_
    intro wC fC
    go_wp2
    go_ret
    exact ⟨rfl, fC⟩
  | some c =>
    have hlt := getE_lt hk
    have hge : ¬ (l.length : Int) ≤ (s.r.at_ : Int) + n := by omega
    have h1 : (0 : Int) ≤ (s.r.at_ : Int) + n := by omega
    have h2 : (s.r.at_ : Int) + n < l.length := by omega
    have h3 : ((s.r.at_ : Int) + n).toNat = s.r.at_ + n := by omega
    obtain ⟨g, cap, rfl, hc⟩ := h.sign hk
    clear h hk
    go_enter Tryz.func140, Tryz.ntmps140
    go_wp2_with fail
    refine region_fr 11 (by kernel_rfl) (by kernel_rfl) ?_
    simp only [List.take_succ_cons, List.take_zero, List.drop_succ_cons, List.drop_zero]
    repeat (quiet_step (fail))
    refine wpQuiet_nil ?_
    intro wC fC
    have rr' := rr wC fC
    have rr2 := fun W (f : Fr nob wC W) => rr W (fC.trans' f)
    have hc2 := fun W (f : Fr nob wC W) => hc W (fC.trans' f)
    clear rr hc
    go_wp2_with fail
    refine region_fr 10 (by kernel_rfl) (by kernel_rfl) ?_
    simp only [List.take_succ_cons, List.take_zero, List.drop_succ_cons, List.drop_zero]
    repeat (quiet_step (fail))
    refine wpQuiet_nil ?_
    intro wD fD
    have hcD := hc2 wD fD
    go_wp2
    go_ret
    exact ⟨rfl, fC.trans' fD⟩

theorem er_next (b : Nat) (l : List UInt8) (s : ES) (S : Nat → Prop) (w : World) (hl : l.length ≤ 100000) (ha : s.r.at_ ≤ l.length) (h : Erd b l s S w) :
    Calls Tryz.prog 118 #[.pointer (some ⟨b, 0, none⟩)] w fun x w' => x = .returned (.int .i32 (rnX l[s.r.at_]?)) ∧ Fr nob w w' := by
  have hB := er_behind b l s S 0 w hl ha (by omega) h
  rw [Nat.add_zero] at hB
  have HB := Lib.hid hB; clear hB
  go_enter Tryz.func118, Tryz.ntmps118
  go_wp2_with fail
  refine HB.out.mono ?_
  rintro e w1 ⟨rfl, f1⟩
  go_wp2
  go_ret
  exact ⟨rfl, f1⟩
theorem rnX_eq {o : Option UInt8} {c : UInt8} : (rnX o = (c.toNat : Int)) ↔ o = some c := by
  cases o with
  | none => exact ⟨fun h => by simp only [rnX] at h; omega, fun h => by cases h⟩
  | some d =>
    simp only [rnX, Option.some.injEq]
    constructor
    · intro h; exact UInt8.toNat_inj.1 (by omega)
    · rintro rfl; rfl
theorem rnX_test (o : Option UInt8) (c : UInt8) (k : Int) (hk : k = (c.toNat : Int)) : (rnX o == k) = decide (o = some c) := by
  subst hk
  by_cases h : o = some c
  · simp [h, rnX]
  · have : ¬ rnX o = (c.toNat : Int) := fun e => h (rnX_eq.1 e)
    simp [h, this]

set_option maxRecDepth 100000 in
theorem er_take (b : Nat) (l : List UInt8) (c : UInt8) (s : ES) (S : Nat → Prop) (w : World) (hl : l.length ≤ 100000) (ha : s.r.at_ ≤ l.length) (h : Erd b l s S w) :
    Calls Tryz.prog 103 #[.pointer (some ⟨b, 0, none⟩), .int .i32 (c.toNat : Int)] w fun x w' =>
      x = .returned (.bool (decide (l[s.r.at_]? = some c))) ∧ Erd b l (if l[s.r.at_]? = some c then s.go 1 else s) S w' ∧ Stp S w S w' := by
  have HN := Lib.hid (er_next b l s S w hl ha h)
  obtain ⟨sv, m, mv, h⟩ := h
  have HE := Lib.hid h; clear h
  have ht := rnX_test l[s.r.at_]? c _ rfl
  by_cases hc : l[s.r.at_]? = some c
  · have hlt := getE_lt hc
    rw [decide_eq_true hc] at ht ⊢
    rw [if_pos hc]
    obtain ⟨R, hR⟩ : ∃ R, rnX l[s.r.at_]? = R := ⟨_, rfl⟩
    rw [hR] at ht HN
    clear hc hR
    go_enter Tryz.func103, Tryz.ntmps103
    go_wp2_with fail
    refine HN.out.mono ?_
    rintro e w1 ⟨rfl, f1⟩
    have h1 := HE.out.on f1
    have r1 := rule8 h1.blk _ (Fr.refl _ _)
    have H1 := Lib.hid h1; have F1 := Lib.hid f1; clear h1 f1
    go_wp2
    go_ret
    exact ⟨rfl, ⟨sv, m, mv, H1.out.turned 2 _ (s.go 1) (by simp [ES.go, RxS.go]) rfl rfl H1.out.ok⟩, (Stp.of F1.out).trans (H1.out.stp 2 _)⟩
  · rw [decide_eq_false hc] at ht ⊢
    rw [if_neg hc]
    obtain ⟨R, hR⟩ : ∃ R, rnX l[s.r.at_]? = R := ⟨_, rfl⟩
    rw [hR] at ht HN
    clear hc hR
    go_enter Tryz.func103, Tryz.ntmps103
    go_wp2_with fail
    refine HN.out.mono ?_
    rintro e w1 ⟨rfl, f1⟩
    go_wp2
    go_ret
    exact ⟨rfl, ⟨sv, m, mv, HE.out.on f1⟩, Stp.of f1⟩

set_option maxRecDepth 100000 in
theorem er_fail (b : Nat) (l : List UInt8) (s : ES) (S : Nat → Prop) (z : Int) (p : Nat) (w : World) (hl : l.length ≤ 100000) (hz : z ≠ 0) (h : Erd b l s S w) :
    Calls Tryz.prog 120 #[.pointer (some ⟨b, 0, none⟩), .int .i64 z, .int .i64 (p : Nat)] w fun x w' =>
      x = .returned (.tuple #[]) ∧ Erd b l (s.fail l z p) S w' ∧ Stp S w S w' := by
  obtain ⟨sv, m, mv, h⟩ := h
  obtain ⟨a, cp, rfl⟩ := ownsRow_slice h.sg
  cases hx : s.x with
  | none =>
    have hx0 : eX s.x = 0 := by rw [hx]; rfl
    have h1 := h.turned 6 (.int .i64 z) ⟨s.r, some (z, 0)⟩ (by simp [eX, pX, hx]) rfl rfl (fun q hq => by injection hq with hq; subst hq; exact hz)
    have h2 := h1.turned 7 (.int .i64 (p : Nat)) ⟨s.r, some (z, p)⟩ (by simp [eX, pX]) rfl rfl (fun q hq => by injection hq with hq; subst hq; exact hz)
    have h3 := h2.turned 2 (.int .i64 (l.length : Nat)) (s.fail l z p) (by simp [ES.fail, RxS.to, hx, eX, pX]) rfl rfl (fun q hq => by simp [ES.fail, hx] at hq; subst hq; exact hz)
    have st := ((h.stp 6 (.int .i64 z)).trans (h1.stp 7 (.int .i64 (p : Nat)))).trans (h2.stp 2 (.int .i64 (l.length : Nat)))
    have r0 := rule8 h.blk _ (Fr.refl _ _)
    have r1 := rule8 h1.blk _ (Fr.refl _ _)
    have r2 := rule8 h2.blk _ (Fr.refl _ _)
    rw [hx0] at r0
    have H3 := Lib.hid h3; have ST := Lib.hid st; clear h h1 h2 h3 st hx0 hx
    go_enter Tryz.func120, Tryz.ntmps120
    go_wp2
    go_end0
    exact ⟨rfl, ⟨_, m, mv, H3.out⟩, ST.out⟩
  | some q =>
    have hx0 : ¬ eX s.x = 0 := by rw [hx]; exact h.ok q hx
    have h3 := h.turned 2 (.int .i64 (l.length : Nat)) (s.fail l z p) (by simp [ES.fail, RxS.to, hx]) rfl rfl (fun q' hq => by simp [ES.fail, hx] at hq; subst hq; exact h.ok q hx)
    have st := h.stp 2 (.int .i64 (l.length : Nat))
    have r0 := rule8 h.blk _ (Fr.refl _ _)
    have H3 := Lib.hid h3; have ST := Lib.hid st; clear h h3 st hx
    obtain ⟨E, hE⟩ : ∃ E, eX s.x = E := ⟨_, rfl⟩
    rw [hE] at hx0 r0
    clear hE
    go_enter Tryz.func120, Tryz.ntmps120
    go_wp2
    go_end0
    exact ⟨rfl, ⟨_, m, mv, H3.out⟩, ST.out⟩
end Go.Proofs.YtmoeboknelnaoaaGreatDoor

/-
  Walks of package ere: number, interval.
-/
namespace Go.Proofs.YtmoeboknelnaoaaGreatDoor
open Go.RowKit

def nE (n c : Nat) : Int := if c = 0 then -1 else (n : Int)
theorem nE_max (n c : Nat) (h : c = 0 → n = 0) : max (nE n c) 0 = (n : Int) := by
  unfold nE
  split
  · next e => rw [h e]; rfl
  · omega
theorem nE_bd {n c : Nat} (h : n < 1000) : -1 ≤ nE n c ∧ nE n c < 1000 := by unfold nE; split <;> omega

set_option maxRecDepth 100000 in
set_option maxHeartbeats 1000000 in
theorem er_number (b : Nat) (l : List UInt8) (s : ES) (S : Nat → Prop) (w : World) (hl : l.length ≤ 100000) (ha : s.r.at_ ≤ l.length) (h : Erd b l s S w) :
    Calls Tryz.prog 155 #[.pointer (some ⟨b, 0, none⟩)] w fun x w' => x = .returned (.int .i64 (numX l s).1) ∧ Erd b l (numX l s).2 S w' ∧ Stp S w S w' := by
  obtain ⟨F, hF⟩ : ∃ F, num3 (l.drop s.r.at_) 0 0 = F := ⟨_, rfl⟩
  have hN : numX l s = (nE F.1 F.2, s.go F.2) := by unfold numX nE; rw [hF]
  rw [hN]
  have HF := Lib.hid hF; have HH := Lib.hid h; clear hF hN h
  go_enter Tryz.func155, Tryz.ntmps155
  go_wp2_with fail
  go_loopw [3, 4] (fun v3 v4 wr => ∃ n c : Nat, v3 = .int .i64 (nE n c) ∧ v4 = .int .i64 c ∧ c ≤ 3 ∧ n < p10 c ∧ (c = 0 → n = 0) ∧ s.r.at_ + c ≤ l.length ∧ num3 (l.drop (s.r.at_ + c)) c n = F ∧ Erd b l (s.go c) S wr ∧ Stp S w S wr) (fun _ c _ => 4 - (intOf c).toNat)
  case atStart => exact ⟨0, 0, rfl, rfl, by omega, by decide, fun _ => rfl, by omega, HF.out, HH.out, Stp.refl _ _⟩
  case round =>
    clear HF HH
    obtain ⟨n, c, rfl, rfl, hc, hn, hc0, hat, hb, hr, hst⟩ := hrel
    have hp := p10_le hc
    have hn1000 : n < 1000 := by omega
    obtain ⟨hbd1, hbd2⟩ := nE_bd (c := c) hn1000
    have HR := Lib.hid hr; have HST := Lib.hid hst; have HB := Lib.hid hb; clear hr hst hb
    have HN := Lib.hid (fun (w' : World) (f : Fr nob wr w') => er_next b l (s.go c) S w' hl hat (HR.out.on f))
    by_cases h3 : c < 3
    · have h3I : (c : Int) < 3 := by omega
      by_cases hd : ∃ x : UInt8, l[s.r.at_ + c]? = some x ∧ 48 ≤ x.toNat
      · obtain ⟨x, hx, h48⟩ := hd
        have hlt := getE_lt hx
        have hxe : l[s.r.at_ + c] = x := by rw [List.getElem?_eq_getElem hlt] at hx; injection hx
        have hR : ∀ w', Fr nob wr w' → Calls Tryz.prog 118 #[.pointer (some ⟨b, 0, none⟩)] w' fun y w2 => y = .returned (.int .i32 (x.toNat : Int)) ∧ Fr nob w' w2 := fun w' f => by
          have := HN.out w' f
          rw [show (s.go c).r.at_ = s.r.at_ + c from rfl, hx] at this
          exact this
        have HX := Lib.hid hR; clear hR HN
        have h48I : (48 : Int) ≤ x.toNat := by omega
        have hx256 := x.toNat_lt
        by_cases h57 : x.toNat ≤ 57
        · have h57I : (x.toNat : Int) ≤ 57 := by omega
          have hb := HB.out
          rw [num3_more hlt (by rw [hxe]; exact ⟨h48, h57, by omega⟩), hxe] at hb
          have hps := p10_succ c
          have hmx := nE_max n c hc0
          have HB2 := Lib.hid hb; have HP := Lib.hid hps; have HMX := Lib.hid hmx
          clear hb hps HB hmx hxe hx
          go_wp2_with fail
          refine (HX.out wr (Fr.refl _ _)).mono ?_
          rintro e w1 ⟨rfl, f1⟩
          have F1 := Lib.hid f1; clear f1
          go_wp2_with fail
          refine (HX.out w1 F1.out).mono ?_
          rintro e w2 ⟨rfl, f2⟩
          have F2 := Lib.hid (F1.out.trans' f2); clear f2
          go_wp2_with fail
          refine (HX.out w2 F2.out).mono ?_
          rintro e w3 ⟨rfl, f3⟩
          have F3 := Lib.hid (F2.out.trans' f3); clear f3
          have h3 := HR.out.on F3.out
          obtain ⟨sv, m, mv, h3⟩ := h3
          have r3 := rule8 h3.blk _ (Fr.refl _ _)
          rw [show (s.go c).r.at_ = s.r.at_ + c from rfl] at r3
          have H3 := Lib.hid h3; clear h3
          have hw32 : IntKind.i32.wrap ((x.toNat : Int) - 48) = (x.toNat : Int) - 48 := IntWalk.i32_in _ (by omega)
          have hw64 : IntKind.i64.wrap ((x.toNat : Int) - 48) = (x.toNat : Int) - 48 := IntWalk.i64_in _ (by omega)
          go_wp2
          go_roundw
          case rel =>
            refine ⟨n * 10 + (x.toNat - 48), c + 1, ?_, by go_num, by omega, by rw [HP.out]; omega, by omega, by omega, by have := HB2.out; rwa [show s.r.at_ + (c + 1) = s.r.at_ + c + 1 from by omega], ⟨sv, m, mv, H3.out.turned 2 _ (s.go (c + 1)) (by simp [ES.go, RxS.go]; omega) rfl rfl H3.out.ok⟩, (HST.out.trans (Stp.of F3.out)).trans (H3.out.stp 2 _)⟩
            rw [HMX.out, show nE (n * 10 + (x.toNat - 48)) (c + 1) = ((n * 10 + (x.toNat - 48) : Nat) : Int) from if_neg (Nat.succ_ne_zero c)]
            congr 1; omega
          case measure => simp [intOf]; omega
        · have h57I : ¬ (x.toNat : Int) ≤ 57 := by omega
          have hb := HB.out
          rw [num3_no hlt (by rw [hxe]; exact fun h => h57 h.2.1)] at hb
          subst hb
          clear HB hxe hx
          go_wp2_with fail
          refine (HX.out wr (Fr.refl _ _)).mono ?_
          rintro e w1 ⟨rfl, f1⟩
          have F1 := Lib.hid f1; clear f1
          go_wp2_with fail
          refine (HX.out w1 F1.out).mono ?_
          rintro e w2 ⟨rfl, f2⟩
          have F2 := Lib.hid (F1.out.trans' f2); clear f2
          go_wp2
          go_ret
          exact ⟨rfl, HR.out.on F2.out, HST.out.trans (Stp.of F2.out)⟩
      · have hn := HN.out wr (Fr.refl _ _)
        rw [show (s.go c).r.at_ = s.r.at_ + c from rfl] at hn
        have hb := HB.out
        obtain ⟨R, hR, hRlt⟩ : ∃ R, rnX l[s.r.at_ + c]? = R ∧ ¬ 48 ≤ R := by
          cases hx : l[s.r.at_ + c]? with
          | none => exact ⟨-1, rfl, by decide⟩
          | some x => exact ⟨x.toNat, rfl, fun h => hd ⟨x, hx, by omega⟩⟩
        have hb : (n, c) = F := by
          by_cases hlt : s.r.at_ + c < l.length
          · rw [num3_no hlt (fun h => hd ⟨_, List.getElem?_eq_getElem hlt, h.1⟩)] at hb; exact hb
          · rw [num3_out (by omega)] at hb; exact hb
        subst hb
        rw [hR] at hn
        have HX := Lib.hid hn
        clear HB HN hn hR
        go_wp2_with fail
        refine HX.out.mono ?_
        rintro e w1 ⟨rfl, f1⟩
        have F1 := Lib.hid f1; clear f1
        go_wp2
        go_ret
        exact ⟨rfl, HR.out.on F1.out, HST.out.trans (Stp.of F1.out)⟩
    · have h3I : ¬ (c : Int) < 3 := by omega
      have hb := HB.out
      have hb : (n, c) = F := by
        by_cases hlt : s.r.at_ + c < l.length
        · rw [num3_no hlt (fun h => by omega)] at hb; exact hb
        · rw [num3_out (by omega)] at hb; exact hb
      subst hb
      clear HB HN
      go_wp2
      go_ret
      exact ⟨rfl, HR.out, HST.out⟩

theorem numX_bd {l : List UInt8} {s : ES} (h : s.r.at_ ≤ l.length) : -1 ≤ (numX l s).1 ∧ (numX l s).1 < 1000 ∧ (numX l s).2.r.at_ ≤ l.length := by
  obtain ⟨b1, b2, b3⟩ := num3_bd l s.r.at_ h
  refine ⟨?_, ?_, b3⟩
  · unfold numX; simp only; split <;> omega
  · unfold numX; simp only; split <;> omega

set_option maxRecDepth 100000 in
set_option maxHeartbeats 1000000 in
theorem er_interval (b : Nat) (l : List UInt8) (s : ES) (S : Nat → Prop) (w : World) (hl : l.length ≤ 100000) (ha : s.r.at_ ≤ l.length) (h : Erd b l s S w) :
    Calls Tryz.prog 141 #[.pointer (some ⟨b, 0, none⟩)] w fun x w' =>
      x = .returned (.tuple #[.int .i64 (itvX l s).1, .int .i64 (itvX l s).2.1, .bool (itvX l s).2.2.1]) ∧ Erd b l (itvX l s).2.2.2 S w' ∧ Stp S w S w' := by
  have h1 := er_number b l s S w hl ha h
  obtain ⟨n1, n2, n3⟩ := numX_bd ha
  unfold itvX
  obtain ⟨mn, s1, hN⟩ : ∃ mn s1, numX l s = (mn, s1) := ⟨_, _, rfl⟩
  rw [hN] at h1 n1 n2 n3 ⊢
  simp only at h1 n1 n2 n3 ⊢
  obtain ⟨mx, s2, hM⟩ : ∃ mx s2, itvX2 l s1 mn = (mx, s2) := ⟨_, _, rfl⟩
  rw [hM]
  simp only
  obtain ⟨ok, s3, hK⟩ : ∃ ok s3, itvX3 l mn mx s2 = (ok, s3) := ⟨_, _, rfl⟩
  rw [hK]
  simp only
  have H1 := Lib.hid h1; clear h1 hN h
  by_cases h0 : 0 ≤ mn
  · have HT1 := Lib.hid (fun w' (f : Erd b l s1 S w') => er_take b l 44 s1 S w' hl n3 f)
    have key : ∀ (W : World), Erd b l s2 S W → Stp S w S W → s2.r.at_ ≤ l.length → -1 ≤ mx → mx < 1000 → ∃ (y : Bool), Calls Tryz.prog 103 #[.pointer (some ⟨b, 0, none⟩), .int .i32 125] W (fun x w' => x = .returned (.bool y) ∧ Erd b l s3 S w' ∧ Stp S w S w') ∧ (if y then decide (mn ≤ 255) && (decide (mx ≤ 255) && (decide (mx < 0) || decide (mn ≤ mx))) else false) = ok := by
      intro W hE hS hle _ _
      have hT := er_take b l 125 s2 S W hl hle hE
      by_cases hd : l[s2.r.at_]? = some 125
      · rw [decide_eq_true hd, if_pos hd] at hT
        unfold itvX3 at hK
        rw [if_pos ⟨h0, hd⟩] at hK
        injection hK with q1 q2
        exact ⟨true, hT.mono fun x w' ⟨a, b, c⟩ => ⟨a, by rw [← q2]; exact b, hS.trans c⟩, q1⟩
      · rw [decide_eq_false hd, if_neg hd] at hT
        unfold itvX3 at hK
        rw [if_neg (fun h => hd h.2)] at hK
        injection hK with q1 q2
        exact ⟨false, hT.mono fun x w' ⟨a, b, c⟩ => ⟨a, by rw [← q2]; exact b, hS.trans c⟩, q1⟩
    have KEY := Lib.hid key
    clear key hK
    by_cases hc : l[s1.r.at_]? = some 44
    · have hlt := getE_lt hc
      have hT1 := Lib.hid (fun w' f => (by have := HT1.out w' f; rw [decide_eq_true hc] at this; simp only [if_pos hc] at this; exact this : Calls Tryz.prog 103 #[.pointer (some ⟨b, 0, none⟩), .int .i32 44] w' fun x w2 => x = .returned (.bool true) ∧ Erd b l (s1.go 1) S w2 ∧ Stp S w' S w2))
      have hM2 : numX l (s1.go 1) = (mx, s2) := by rw [← hM]; unfold itvX2; rw [if_pos ⟨h0, hc⟩]
      obtain ⟨m1, m2, m3⟩ := numX_bd (l := l) (s := s1.go 1) hlt
      have hN2 := Lib.hid (fun w' (f : Erd b l (s1.go 1) S w') => er_number b l (s1.go 1) S w' hl hlt f)
      rw [hM2] at hN2 m1 m2 m3
      simp only at hN2 m1 m2 m3
      clear hM hM2 hc HT1 hlt
      go_enter Tryz.func141, Tryz.ntmps141
      go_wp2_with fail
      refine H1.out.mono ?_
      rintro e w1 ⟨rfl, e1, t1⟩
      have E1 := Lib.hid e1; have T1 := Lib.hid t1; clear e1 t1
      go_wp2_with fail
      refine (hT1.out w1 E1.out).mono ?_
      rintro e w2 ⟨rfl, e2, t2⟩
      have E2 := Lib.hid e2; have T2 := Lib.hid (T1.out.trans t2); clear e2 t2
      go_wp2_with fail
      refine (hN2.out w2 E2.out).mono ?_
      rintro e w3 ⟨rfl, e3, t3⟩
      have E3 := Lib.hid e3; have T3 := Lib.hid (T2.out.trans t3); clear e3 t3
      obtain ⟨y, hy, hok⟩ := KEY.out w3 E3.out T3.out m3 m1 m2
      have HY := Lib.hid hy; have HOK := Lib.hid hok
      clear hy hok
      go_wp2_with fail
      refine HY.out.mono ?_
      rintro e w4 ⟨rfl, e4, t4⟩
      have E4 := Lib.hid e4; have T4 := Lib.hid t4; clear e4 t4
      cases y with
      | false =>
        obtain rfl : false = ok := HOK.out
        go_wp2
        go_ret3
        exact ⟨rfl, E4.out, T4.out⟩
      | true =>
        have hok : (decide (mn ≤ 255) && (decide (mx ≤ 255) && (decide (mx < 0) || decide (mn ≤ mx)))) = ok := HOK.out
        subst hok
        clear HOK
        by_cases c1 : mn ≤ 255
        · by_cases c2 : mx ≤ 255
          · by_cases c3 : mx < 0
            · go_wp2
              go_ret3
              exact ⟨by simp [c1, c2, c3], E4.out, T4.out⟩
            · by_cases c4 : mn ≤ mx
              · go_wp2
                go_ret3
                exact ⟨by simp [c1, c2, c3, c4], E4.out, T4.out⟩
              · go_wp2
                go_ret3
                exact ⟨by simp [c1, c2, c3, c4], E4.out, T4.out⟩
          · go_wp2
            go_ret3
            exact ⟨by first | (simp; done) | (simp; omega), E4.out, T4.out⟩
        · go_wp2
          go_ret3
          exact ⟨by first | (simp; done) | (simp; omega), E4.out, T4.out⟩
    · have hT1 := Lib.hid (fun w' f => (by have := HT1.out w' f; rw [decide_eq_false hc] at this; simp only [if_neg hc] at this; exact this : Calls Tryz.prog 103 #[.pointer (some ⟨b, 0, none⟩), .int .i32 44] w' fun x w2 => x = .returned (.bool false) ∧ Erd b l s1 S w2 ∧ Stp S w' S w2))
      have hM2 : mn = mx ∧ s1 = s2 := by
        unfold itvX2 at hM; rw [if_neg (fun h => hc h.2)] at hM; injection hM with q1 q2; exact ⟨q1, q2⟩
      obtain ⟨rfl, rfl⟩ := hM2
      clear hM hc HT1
      go_enter Tryz.func141, Tryz.ntmps141
      go_wp2_with fail
      refine H1.out.mono ?_
      rintro e w1 ⟨rfl, e1, t1⟩
      have E1 := Lib.hid e1; have T1 := Lib.hid t1; clear e1 t1
      go_wp2_with fail
      refine (hT1.out w1 E1.out).mono ?_
      rintro e w2 ⟨rfl, e2, t2⟩
      have E2 := Lib.hid e2; have T2 := Lib.hid (T1.out.trans t2); clear e2 t2
      obtain ⟨y, hy, hok⟩ := KEY.out w2 E2.out T2.out n3 n1 n2
      have HY := Lib.hid hy; have HOK := Lib.hid hok
      clear hy hok
      go_wp2_with fail
      refine HY.out.mono ?_
      rintro e w4 ⟨rfl, e4, t4⟩
      have E4 := Lib.hid e4; have T4 := Lib.hid t4; clear e4 t4
      cases y with
      | false =>
        obtain rfl : false = ok := HOK.out
        go_wp2
        go_ret3
        exact ⟨rfl, E4.out, T4.out⟩
      | true =>
        have hok : (decide (mn ≤ 255) && (decide (mn ≤ 255) && (decide (mn < 0) || decide (mn ≤ mn)))) = ok := HOK.out
        subst hok
        clear HOK
        by_cases c1 : mn ≤ 255
        · by_cases c2 : mn ≤ 255
          · by_cases c3 : mn < 0
            · go_wp2
              go_ret3
              exact ⟨by simp [c1, c2, c3], E4.out, T4.out⟩
            · by_cases c4 : mn ≤ mn
              · go_wp2
                go_ret3
                exact ⟨by simp [c1, c2, c3, c4], E4.out, T4.out⟩
              · go_wp2
                go_ret3
                exact ⟨by simp [c1, c2, c3, c4], E4.out, T4.out⟩
          · go_wp2
            go_ret3
            exact ⟨by first | (simp; done) | (simp; omega), E4.out, T4.out⟩
        · go_wp2
          go_ret3
          exact ⟨by first | (simp; done) | (simp; omega), E4.out, T4.out⟩
  · have hM2 : mn = mx ∧ s1 = s2 := by
      unfold itvX2 at hM; rw [if_neg (fun h => h0 h.1)] at hM; injection hM with q1 q2; exact ⟨q1, q2⟩
    obtain ⟨rfl, rfl⟩ := hM2
    have hK2 : false = ok ∧ s1 = s3 := by
      unfold itvX3 at hK; rw [if_neg (fun h => h0 h.1)] at hK; injection hK with q1 q2; exact ⟨q1, q2⟩
    obtain ⟨rfl, rfl⟩ := hK2
    clear hM hK
    go_enter Tryz.func141, Tryz.ntmps141
    go_wp2_with fail
    refine H1.out.mono ?_
    rintro e w1 ⟨rfl, e1, t1⟩
    have E1 := Lib.hid e1; have T1 := Lib.hid t1; clear e1 t1
    go_wp2
    go_ret3
    exact ⟨rfl, E1.out, T1.out⟩
end Go.Proofs.YtmoeboknelnaoaaGreatDoor

/-
  Walks of package ere: class, set. Printed by tools/erec.py.
-/
namespace Go.Proofs.YtmoeboknelnaoaaGreatDoor
open Go.RowKit

theorem results_setb {fn : Func} {p q : Tmp} (h : fn.results = #[.cell p 91, .tmp q]) {tmps : Array Value} {b : Nat} (ht : tmps.getD p undef = .pointer (some ⟨b, 0, none⟩)) {u : Value} (hq : tmps.getD q undef = u) {W : World} {s : S4}
    (hb : W.heap[b]? = some (.cells #[.int .u64 s.a, .int .u64 s.b, .int .u64 s.c, .int .u64 s.d] 91 (0, 0))) : (results fn tmps).run Tryz.prog W = .ok (.tuple #[setV s, u]) W := by
  have c0 := cell_at (j := 0) (v := .int .u64 s.a) hb rfl
  have c1 := cell_at (j := 1) (v := .int .u64 s.b) hb rfl
  have c2 := cell_at (j := 2) (v := .int .u64 s.c) hb rfl
  have c3 := cell_at (j := 3) (v := .int .u64 s.d) hb rfl
  have ht' : tmps[p]?.getD undef = .pointer (some ⟨b, 0, none⟩) := by rw [← ht]; simp
  have hq' : tmps[q]?.getD undef = u := by rw [← hq]; simp
  simp only [results, h]
  simp [ht', hq', go_sem, c0, c1, c2, c3]

set_option maxRecDepth 100000 in
set_option maxHeartbeats 1000000 in
theorem er_class (x : ByteArray) (o : Option (Int → Bool)) (ho : clsOf x = o) (w : World) : Calls Tryz.prog 167 #[.string x] w fun e w' => e = .returned (setV (clsSet o)) ∧ Fr nob w w' := by
  have hc := fun w => class_lit x _ ho w
  obtain ⟨s, hs⟩ : ∃ s, clsSet o = s := ⟨_, rfl⟩
  rw [hs] at hc ⊢
  have HC := Lib.hid hc; clear hc hs
  go_enter Tryz.func167, Tryz.ntmps167
  go_wp2_with fail
  refine (HC.out _).mono ?_
  rintro e w1 ⟨rfl, f1⟩
  have hb0 := f1.heap (newAt0 w _) (fun x => x)
  have rr := rule4 hb0
  have HB := Lib.hid hb0; have F1 := Lib.hid f1; clear f1 hb0
  go_wp2
  have hzc := heap_alloc_lt (w := w1) (.cells #[.int .u64 s.a, .int .u64 s.b, .int .u64 s.c, .int .u64 s.d] 91) HB.out
  exact bodyPost_ret (results_set (s := s) rfl rfl (setFour_heap hzc _ _ _ _)) rfl ⟨rfl, setFour_fr ((((Fr.refl nob w).alloc _).trans' F1.out).alloc _) (Nat.le_refl _) _ _ _ _⟩

/-- The set of a byte behind a backslash, and whether there is one. -/
def setE (b : UInt8) : S4 × Bool :=
  match escB b with
  | some (c, _) => (c, true)
  | none => (spn b.toNat b.toNat, false)
theorem setE_else {b : UInt8} (h1 : b ≠ 110) (h2 : b ≠ 116) (h3 : b ≠ 119) (h4 : b ≠ 87) (h5 : b ≠ 115) (h6 : b ≠ 83) : setE b = (spn b.toNat b.toNat, punctS.has b.toNat) := by
  unfold setE escB
  rw [if_neg h1, if_neg h2, if_neg h3, if_neg h4, if_neg h5, if_neg h6]
  cases punctS.has b.toNat <;> rfl
abbrev SetPost (R : S4 × Bool) (w : World) (e : Ending) (w' : World) : Prop := e = .returned (.tuple #[setV R.1, .bool R.2]) ∧ Fr nob w w'

set_option maxRecDepth 100000 in
set_option maxHeartbeats 2000000 in
theorem er_set (b : UInt8) (w : World) : Calls Tryz.prog 156 #[.int .i32 (b.toNat : Int)] w fun e w' => SetPost (setE b) w e w' := by
  obtain ⟨w0, hw0⟩ : ∃ w0, w0 = w.alloc (.cells #[.int .u64 0, .int .u64 0, .int .u64 0, .int .u64 0] 91) := ⟨_, rfl⟩
  have hz : w0.heap[w.heap.size]? = some (.cells #[.int .u64 0, .int .u64 0, .int .u64 0, .int .u64 0] 91 (0, 0)) := by rw [hw0]; exact newAt0 w _
  have F0 := Lib.hid (show Fr nob w w0 by rw [hw0]; exact (Fr.refl _ _).alloc _)
  have hsz : w0.heap.size = w.heap.size + 1 := by rw [hw0]; simp
  have rr := rule4 hz
  have HZ := Lib.hid hz; have HW := Lib.hid hw0
  clear hz hw0
  by_cases h110 : b = 110
  · subst h110
    rw [show setE 110 = (spn 10 10, true) from rfl]
    obtain ⟨s, hs⟩ : ∃ s, spn 10 10 = s := ⟨_, rfl⟩
    have ho : ∀ (W : World) (T : TypeId), Calls Tryz.prog 146 #[.slice (some ⟨W.heap.size, 0, none⟩) 1 1] (W.alloc (.cells #[.int .u8 10] T)) fun e w' => e = .returned (setV (spn 10 10)) ∧ Fr nob (W.alloc (.cells #[.int .u8 10] T)) w' := fun W T => of_one 10 W T
    rw [hs] at ho ⊢
    have ho1 := ho w0 5
    rw [hsz] at ho1
    have HO := Lib.hid ho1; clear ho ho1 hs hsz
    go_enter Tryz.func156, Tryz.ntmps156
    go_wp2_with fail
    rw [← HW.out]
    with_reducible refine (HO.out).mono ?_
    rintro e w1 ⟨rfl, f1⟩
    have f9 : Fr nob w0 w1 := ((Fr.refl _ _).alloc _).trans' f1
    clear f1
    go_wp2
    exact bodyPost_ret (results_setb (s := s) rfl rfl rfl (setFour_heap (f9.heap HZ.out (fun x => x)) _ _ _ _)) rfl ⟨rfl, setFour_fr (F0.out.trans' f9) (Nat.le_refl _) _ _ _ _⟩
  · have t110 : ((b.toNat : Int) == 110) = false := tb_ne (b := 110) h110
    by_cases h116 : b = 116
    · subst h116
      rw [show setE 116 = (spn 9 9, true) from rfl]
      obtain ⟨s, hs⟩ : ∃ s, spn 9 9 = s := ⟨_, rfl⟩
      have ho : ∀ (W : World) (T : TypeId), Calls Tryz.prog 146 #[.slice (some ⟨W.heap.size, 0, none⟩) 1 1] (W.alloc (.cells #[.int .u8 9] T)) fun e w' => e = .returned (setV (spn 9 9)) ∧ Fr nob (W.alloc (.cells #[.int .u8 9] T)) w' := fun W T => of_one 9 W T
      rw [hs] at ho ⊢
      have ho1 := ho w0 5
      rw [hsz] at ho1
      have HO := Lib.hid ho1; clear ho ho1 hs hsz
      go_enter Tryz.func156, Tryz.ntmps156
      go_wp2_with fail
      rw [← HW.out]
      with_reducible refine (HO.out).mono ?_
      rintro e w1 ⟨rfl, f1⟩
      have f9 : Fr nob w0 w1 := ((Fr.refl _ _).alloc _).trans' f1
      clear f1
      go_wp2
      exact bodyPost_ret (results_setb (s := s) rfl rfl rfl (setFour_heap (f9.heap HZ.out (fun x => x)) _ _ _ _)) rfl ⟨rfl, setFour_fr (F0.out.trans' f9) (Nat.le_refl _) _ _ _ _⟩
    · have t116 : ((b.toNat : Int) == 116) = false := tb_ne (b := 116) h116
      by_cases h119 : b = 119
      · subst h119
        rw [show setE 119 = (wordS, true) from rfl]
        unfold wordS
        have hc := fun w => er_class ⟨#[97, 108, 110, 117, 109]⟩ _ rfl w
        obtain ⟨s, hs⟩ : ∃ s, clsSet (clsOf ⟨#[97, 108, 110, 117, 109]⟩) = s := ⟨_, rfl⟩
        rw [hs] at hc ⊢
        have ho := of_95
        obtain ⟨u, hu⟩ : ∃ u, spn 95 95 = u := ⟨_, rfl⟩
        rw [hu] at ho ⊢
        have hr := fun w => or_lit s u w
        obtain ⟨q, hq⟩ : ∃ q, s.or u = q := ⟨_, rfl⟩
        rw [hq] at hr ⊢
        have HO := Lib.hid ho; have HC := Lib.hid hc; have HR := Lib.hid hr; clear ho hc hr hs hu hq hsz
        go_enter Tryz.func156, Tryz.ntmps156
        go_wp2_with fail
        rw [← HW.out]
        with_reducible refine (HC.out _).mono ?_
        rintro e w1 ⟨rfl, f1⟩
        go_wp2_with fail
        with_reducible refine (HO.out w1 _).mono ?_
        rintro e w2 ⟨rfl, f2⟩
        go_wp2_with fail
        with_reducible refine (HR.out _).mono ?_
        rintro e w3 ⟨rfl, f3⟩
        have f9 : Fr nob w0 w3 := ((f1.alloc _).trans' f2).trans' f3
        clear f1 f2 f3
        go_wp2
        exact bodyPost_ret (results_setb (s := q) rfl rfl rfl (setFour_heap (f9.heap HZ.out (fun x => x)) _ _ _ _)) rfl ⟨rfl, setFour_fr (F0.out.trans' f9) (Nat.le_refl _) _ _ _ _⟩
      · have t119 : ((b.toNat : Int) == 119) = false := tb_ne (b := 119) h119
        by_cases h87 : b = 87
        · subst h87
          rw [show setE 87 = (wordS.not, true) from rfl]
          unfold wordS
          have hc := fun w => er_class ⟨#[97, 108, 110, 117, 109]⟩ _ rfl w
          obtain ⟨s, hs⟩ : ∃ s, clsSet (clsOf ⟨#[97, 108, 110, 117, 109]⟩) = s := ⟨_, rfl⟩
          rw [hs] at hc ⊢
          have ho := of_95
          obtain ⟨u, hu⟩ : ∃ u, spn 95 95 = u := ⟨_, rfl⟩
          rw [hu] at ho ⊢
          have hr := fun w => or_lit s u w
          obtain ⟨q, hq⟩ : ∃ q, s.or u = q := ⟨_, rfl⟩
          rw [hq] at hr ⊢
          have hn := fun w => not_lit q w
          obtain ⟨n, hn2⟩ : ∃ n, q.not = n := ⟨_, rfl⟩
          rw [hn2] at hn ⊢
          have HN := Lib.hid hn; clear hn hn2
          have HO := Lib.hid ho; have HC := Lib.hid hc; have HR := Lib.hid hr; clear ho hc hr hs hu hq hsz
          go_enter Tryz.func156, Tryz.ntmps156
          go_wp2_with fail
          rw [← HW.out]
          with_reducible refine (HC.out _).mono ?_
          rintro e w1 ⟨rfl, f1⟩
          go_wp2_with fail
          with_reducible refine (HO.out w1 _).mono ?_
          rintro e w2 ⟨rfl, f2⟩
          go_wp2_with fail
          with_reducible refine (HR.out _).mono ?_
          rintro e w3 ⟨rfl, f3⟩
          go_wp2_with fail
          with_reducible refine (HN.out _).mono ?_
          rintro e w4 ⟨rfl, f4⟩
          have f9 : Fr nob w0 w4 := (((f1.alloc _).trans' f2).trans' f3).trans' f4
          clear f1 f2 f3 f4
          go_wp2
          exact bodyPost_ret (results_setb (s := n) rfl rfl rfl (setFour_heap (f9.heap HZ.out (fun x => x)) _ _ _ _)) rfl ⟨rfl, setFour_fr (F0.out.trans' f9) (Nat.le_refl _) _ _ _ _⟩
        · have t87 : ((b.toNat : Int) == 87) = false := tb_ne (b := 87) h87
          by_cases h115 : b = 115
          · subst h115
            rw [show setE 115 = (spaceS, true) from rfl]
            unfold spaceS
            have hc := fun w => er_class ⟨#[115, 112, 97, 99, 101]⟩ _ rfl w
            obtain ⟨s, hs⟩ : ∃ s, clsSet (clsOf ⟨#[115, 112, 97, 99, 101]⟩) = s := ⟨_, rfl⟩
            rw [hs] at hc ⊢
            have HC := Lib.hid hc; clear hc hs hsz
            go_enter Tryz.func156, Tryz.ntmps156
            go_wp2_with fail
            rw [← HW.out]
            with_reducible refine (HC.out _).mono ?_
            rintro e w1 ⟨rfl, f1⟩
            have f9 := f1
            clear f1
            go_wp2
            exact bodyPost_ret (results_setb (s := s) rfl rfl rfl (setFour_heap (f9.heap HZ.out (fun x => x)) _ _ _ _)) rfl ⟨rfl, setFour_fr (F0.out.trans' f9) (Nat.le_refl _) _ _ _ _⟩
          · have t115 : ((b.toNat : Int) == 115) = false := tb_ne (b := 115) h115
            by_cases h83 : b = 83
            · subst h83
              rw [show setE 83 = (spaceS.not, true) from rfl]
              unfold spaceS
              have hc := fun w => er_class ⟨#[115, 112, 97, 99, 101]⟩ _ rfl w
              obtain ⟨s, hs⟩ : ∃ s, clsSet (clsOf ⟨#[115, 112, 97, 99, 101]⟩) = s := ⟨_, rfl⟩
              rw [hs] at hc ⊢
              have hn := fun w => not_lit s w
              obtain ⟨n, hn2⟩ : ∃ n, s.not = n := ⟨_, rfl⟩
              rw [hn2] at hn ⊢
              have HN := Lib.hid hn; clear hn hn2
              have HC := Lib.hid hc; clear hc hs hsz
              go_enter Tryz.func156, Tryz.ntmps156
              go_wp2_with fail
              rw [← HW.out]
              with_reducible refine (HC.out _).mono ?_
              rintro e w1 ⟨rfl, f1⟩
              go_wp2_with fail
              with_reducible refine (HN.out _).mono ?_
              rintro e w4 ⟨rfl, f4⟩
              have f9 : Fr nob w0 w4 := f1.trans' f4
              clear f1 f4
              go_wp2
              exact bodyPost_ret (results_setb (s := n) rfl rfl rfl (setFour_heap (f9.heap HZ.out (fun x => x)) _ _ _ _)) rfl ⟨rfl, setFour_fr (F0.out.trans' f9) (Nat.le_refl _) _ _ _ _⟩
            · have t83 : ((b.toNat : Int) == 83) = false := tb_ne (b := 83) h83
              rw [setE_else h110 h116 h119 h87 h115 h83]
              clear h110 h116 h119 h87 h115 h83
              have hb := b.toNat_lt
              have hfit : punctS.fit := fit_clsSet _
              have hc := fun w => er_class ⟨#[112, 117, 110, 99, 116]⟩ _ rfl w
              rw [show clsSet (clsOf ⟨#[112, 117, 110, 99, 116]⟩) = punctS from rfl] at hc
              have hh := fun w => has_lit punctS b.toNat w hfit (by omega)
              obtain ⟨u, hu⟩ : ∃ u, spn b.toNat b.toNat = u := ⟨_, rfl⟩
              have ho := of_one b
              rw [hu] at ho ⊢
              obtain ⟨q, hq⟩ : ∃ q, punctS.has b.toNat = q := ⟨_, rfl⟩
              rw [hq] at hh ⊢
              obtain ⟨s, hs⟩ : ∃ s, punctS = s := ⟨_, rfl⟩
              rw [hs] at hc hh
              have hw8 : IntKind.u8.wrap (b.toNat : Int) = b.toNat := IntWalk.u8_in _ (by omega)
              have HO := Lib.hid ho; have HC := Lib.hid hc; have HH := Lib.hid hh
              have ho1 := ho w0 5
              rw [hsz] at ho1
              have HO := Lib.hid ho1
              clear ho ho1 hc hh hu hq hs hfit hsz
              go_enter Tryz.func156, Tryz.ntmps156
              go_wp2_with fail
              rw [← HW.out]
              with_reducible refine (HO.out).mono ?_
              rintro e w1 ⟨rfl, f1⟩
              go_wp2_with fail
              with_reducible refine (HC.out _).mono ?_
              rintro e w2 ⟨rfl, f2⟩
              go_wp2_with fail
              with_reducible refine (HH.out _).mono ?_
              rintro e w3 ⟨rfl, f3⟩
              have f9 : Fr nob w0 w3 := ((((Fr.refl _ _).alloc _).trans' f1).trans' f2).trans' f3
              clear f1 f2 f3
              go_wp2
              exact bodyPost_ret (results_setb (s := u) rfl rfl rfl (setFour_heap (f9.heap HZ.out (fun x => x)) _ _ _ _)) rfl ⟨rfl, setFour_fr (F0.out.trans' f9) (Nat.le_refl _) _ _ _ _⟩
end Go.Proofs.YtmoeboknelnaoaaGreatDoor
