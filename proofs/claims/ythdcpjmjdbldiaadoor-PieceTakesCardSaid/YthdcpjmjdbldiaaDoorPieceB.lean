/-
  Walks of piece's reader: copy, escape.
-/
import Derived.Test.YthdcpjmjdbldiaaDoorPieceA
import Derived.StillTailTactics
namespace Go.Proofs.YthdcpjmjdbldiaaDoor
open Go.RowKit

/-- A piece.reader in block b: its text, its place, what it has put out so far. -/
def Rdr (b : Nat) (s : List UInt8) (at_ : Nat) (out : List UInt8) (g : Option Nat) (w : World) : Prop :=
  ∃ cs, BldAt 5 51 b 2 cs out g w ∧ cs.size = 4 ∧ cs[0]? = some (.string ⟨s.toArray⟩) ∧ cs[1]? = some (.int .i64 at_)

theorem bldIn_rdr {n : Nat} (h : n = 4) : BldIn 51 n 2 := by subst h; unfold BldIn; kernel_rfl

theorem Rdr.drewN {b : Nat} {s : List UInt8} {at_ : Nat} {out : List UInt8} {g : Option Nat} {w : World} (h : Rdr b s at_ out g w) (n : Nat) : Rdr b s at_ out g (w.drewN n) := h

theorem Rdr.drew {b : Nat} {s : List UInt8} {at_ : Nat} {out : List UInt8} {g : Option Nat} {w : World} (h : Rdr b s at_ out g w) : Rdr b s at_ out g w.drew := h

theorem Rdr.cell0 {b : Nat} {s : List UInt8} {at_ : Nat} {out : List UInt8} {g : Option Nat} {w : World} (h : Rdr b s at_ out g w) : w.cell? ⟨b, 0, none⟩ = some (.string ⟨s.toArray⟩) := by
  obtain ⟨cs, ⟨hb, _⟩, _, h0, _⟩ := h; exact cell_at hb h0
theorem Rdr.cell1 {b : Nat} {s : List UInt8} {at_ : Nat} {out : List UInt8} {g : Option Nat} {w : World} (h : Rdr b s at_ out g w) : w.cell? ⟨b, 1, none⟩ = some (.int .i64 at_) := by
  obtain ⟨cs, ⟨hb, _⟩, _, _, h1⟩ := h; exact cell_at hb h1
theorem Rdr.thawed {b : Nat} {s : List UInt8} {at_ : Nat} {out : List UInt8} {g : Option Nat} {w : World} (h : Rdr b s at_ out g w) (j : Nat) : w.frozen? ⟨b, j, none⟩ = false := by
  obtain ⟨cs, ⟨hb, _⟩, _⟩ := h; exact unfrozen_at hb j

/-- Its place moved on. -/
theorem Rdr.moved {b : Nat} {s : List UInt8} {at_ : Nat} {out : List UInt8} {g : Option Nat} {w : World} (h : Rdr b s at_ out g w) (k : Nat) : Rdr b s k out g (w.setCell ⟨b, 1, none⟩ (.int .i64 k)) := by
  obtain ⟨cs, ⟨hb, ho, hp, v, hv, hown, hg, hne, hn⟩, hs, h0, h1⟩ := h
  refine ⟨cs.setIfInBounds 1 (.int .i64 k), ⟨heap_setCell_at hb 1 _, by simpa using ho, ?_, v, ?_, ?_, hg, hne, hn⟩, by simpa using hs, ?_, set_at (by omega)⟩
  · rw [set_set_ne (by omega)]; exact hp
  · rw [set_set_ne (by omega)]; exact hv
  · exact ownsRow_fr hown ((Fr.refl (fun k => k = b) w).setCell (p := ⟨b, 1, none⟩) (fun _ => rfl) _) (fun k hk e => hne (by rw [← hg, hk, e]))
  · rw [set_set_ne (by omega)]; exact h0

theorem rdr_writeString (b : Nat) (s : List UInt8) (at_ : Nat) (out l : List UInt8) (g : Option Nat) (w : World) (h : Rdr b s at_ out g w) (hlen : out.length + l.length ≤ 140737488355328) :
    Calls Tryd.prog 41 #[.pointer (some ⟨b, 2, none⟩), .string ⟨l.toArray⟩] w fun e w' => e = .returned (.tuple #[.int .i64 l.length, .nilIface]) ∧
      ∃ g', Rdr b s at_ (out ++ l) g' w' ∧ Fr (fun k => k = b ∨ some k = g) w w' ∧ (∀ k, g' = some k → some k = g ∨ w.heap.size ≤ k) := by
  obtain ⟨cs, hb, hs, h0, h1⟩ := h
  refine (writeString_any _ b 2 cs out g l w hb (bldIn_rdr hs) hlen).mono ?_
  rintro e w' ⟨rfl, v', hb', hf, hn⟩
  exact ⟨rfl, _, ⟨_, hb', by rw [bldCells_size]; exact hs, by rw [bldCells_ne _ _ _ _ (by omega) (by omega)]; exact h0, by rw [bldCells_ne _ _ _ _ (by omega) (by omega)]; exact h1⟩, hf, hn⟩

theorem rdr_writeByte (b : Nat) (s : List UInt8) (at_ : Nat) (out : List UInt8) (c : Int) (g : Option Nat) (w : World) (hc : 0 ≤ c ∧ c ≤ 255) (h : Rdr b s at_ out g w) (hlen : out.length ≤ 140737488355327) :
    Calls Tryd.prog 20 #[.pointer (some ⟨b, 2, none⟩), .int .u8 c] w fun e w' => e = .returned .nilIface ∧
      ∃ g', Rdr b s at_ (out ++ [c.toNat.toUInt8]) g' w' ∧ Fr (fun k => k = b ∨ some k = g) w w' ∧ (∀ k, g' = some k → some k = g ∨ w.heap.size ≤ k) := by
  obtain ⟨cs, hb, hs, h0, h1⟩ := h
  refine (writeByte_any _ b 2 cs out g c w hc hb (bldIn_rdr hs) hlen).mono ?_
  rintro e w' ⟨rfl, v', hb', hf, hn⟩
  exact ⟨rfl, _, ⟨_, hb', by rw [bldCells_size]; exact hs, by rw [bldCells_ne _ _ _ _ (by omega) (by omega)]; exact h0, by rw [bldCells_ne _ _ _ _ (by omega) (by omega)]; exact h1⟩, hf, hn⟩

/-- What a step of a reader leaves. -/
def Stepped (b : Nat) (s : List UInt8) (at_ : Nat) (out : List UInt8) (g : Option Nat) (w w' : World) : Prop :=
  ∃ g', Rdr b s at_ out g' w' ∧ Fr (fun k => k = b ∨ some k = g) w w' ∧ (∀ k, g' = some k → some k = g ∨ w.heap.size ≤ k)

set_option maxHeartbeats 1000000 in
theorem copy_yes (b : Nat) (s : List UInt8) (at_ n : Nat) (out : List UInt8) (g : Option Nat) (w : World) (h : Rdr b s at_ out g w) (hs : s.length ≤ 1000000) (ho : out.length ≤ 1000000) (hn : at_ + n ≤ s.length)
    (hi : Lib.indexByte ((s.drop at_).take n) 10 < 0) :
    Calls Tryd.prog 26 #[.pointer (some ⟨b, 0, none⟩), .int .i64 n] w fun e w' => e = .returned (.bool true) ∧ Stepped b s (at_ + n) (out ++ (s.drop at_).take n) g w w' := by
  have c0 := h.cell0; have c1 := h.cell1
  have H := Lib.hid h; clear h
  have hw : IntKind.i64.wrap ((at_ : Int) + n) = at_ + n := IntWalk.i64_in _ (by omega)
  have hsl := run_slice_bs (P := Tryd.prog) s (lo := at_) (hi := (at_ : Int) + n) Tryd.underlying9 (by omega) (by omega) (by omega)
  go_enter Tryd.func26, Tryd.ntmps26
  go_wp2
  go_still_tail 14, (by kernel_rfl)
  change wpList _ _ _ _ _ w.drew
  go_wp2_with (go_at_call 40; refine (strings_IndexByte _ _ _).mono ?_; rintro e w' ⟨rfl, rfl⟩)
  refine (rdr_writeString b s at_ out ((s.drop at_).take n) g _ H.out.drew (by have := List.length_take_le n (s.drop at_); omega)).mono ?_
  rintro e w1 ⟨rfl, g', h1, hf, hn1⟩
  have d1 := h1.cell1; have t1 := h1.thawed 1
  have H1 := Lib.hid h1; clear h1
  go_wp2
  go_ret
  refine ⟨rfl, g', H1.out.moved (at_ + n), ?_, hn1⟩
  exact (((Fr.refl _ w).drew).trans' hf).setCell (p := ⟨b, 1, none⟩) (fun _ => Or.inl rfl) _

set_option maxHeartbeats 1000000 in
theorem copy_no (b : Nat) (s : List UInt8) (at_ n : Nat) (out : List UInt8) (g : Option Nat) (w : World) (h : Rdr b s at_ out g w) (hs : s.length ≤ 1000000) (hn : at_ + n ≤ s.length)
    (i : Nat) (hi : Lib.indexByte ((s.drop at_).take n) 10 = i) :
    Calls Tryd.prog 26 #[.pointer (some ⟨b, 0, none⟩), .int .i64 n] w fun e w' => e = .returned (.bool false) ∧ Stepped b s (at_ + i) out g w w' := by
  have c0 := h.cell0; have c1 := h.cell1; have t1 := h.thawed 1
  have H := Lib.hid h; clear h
  have hw : IntKind.i64.wrap ((at_ : Int) + n) = at_ + n := IntWalk.i64_in _ (by omega)
  have hsl := run_slice_bs (P := Tryd.prog) s (lo := at_) (hi := (at_ : Int) + n) Tryd.underlying9 (by omega) (by omega) (by omega)
  have hbd := indexByte_bd ((s.drop at_).take n) 10
  have hll : ((s.drop at_).take n).length ≤ n := List.length_take_le _ _
  have hi2 : (i : Int) ≤ n := by omega
  have hi3 : (0 : Int) ≤ i := by omega
  clear hbd hll
  go_enter Tryd.func26, Tryd.ntmps26
  go_wp2
  go_still_tail 14, (by kernel_rfl)
  change wpList _ _ _ _ _ w.drew
  clear hw
  go_wp2_with (go_at_call 40; refine (strings_IndexByte _ _ _).mono ?_; rintro e w' ⟨rfl, rfl⟩)
  go_ret
  exact ⟨rfl, g, (H.out.moved (at_ + i)), ((Fr.refl _ w).setCell (p := ⟨b, 1, none⟩) (fun _ => Or.inl rfl) _).drew, fun k hk => .inl hk.symm⟩


/-- What 'escape' does: the error's number, the place, what is put out. -/
def esc (s : List UInt8) (d : UInt8) (rx : Bool) (at_ : Nat) (out : List UInt8) : Int × Nat × List UInt8 :=
  match s[at_ + 1]? with
  | none => (5, s.length, out)
  | some x => if x = d then (0, at_ + 2, out ++ [x]) else if x = 10 ∧ rx = true then (2, at_ + 1, out) else (0, at_ + 2, out ++ [92, x])

set_option maxHeartbeats 1000000 in
theorem escape_any (b : Nat) (s : List UInt8) (at_ : Nat) (out : List UInt8) (d : UInt8) (rx : Bool) (g : Option Nat) (w : World) (h : Rdr b s at_ out g w) (hs : s.length ≤ 1000000) (ho : out.length ≤ 1000000) (hat : at_ < s.length) :
    Calls Tryd.prog 24 #[.pointer (some ⟨b, 0, none⟩), .int .u8 d.toNat, .bool rx] w fun e w' =>
      e = .returned (.int .i64 (esc s d rx at_ out).1) ∧ Stepped b s (esc s d rx at_ out).2.1 (esc s d rx at_ out).2.2 g w w' := by
  have c0 := h.cell0; have c1 := h.cell1; have t1 := h.thawed 1
  by_cases hend : at_ + 1 = s.length
  · have hE : esc s d rx at_ out = (5, s.length, out) := by unfold esc; rw [List.getElem?_eq_none (by omega)]
    rw [hE]; clear hE
    have ht : ((at_ : Int) + 1 == s.length) = true := by simp; omega
    have H := Lib.hid h; clear h; have HE := Lib.hid hend; clear hend
    go_enter Tryd.func24, Tryd.ntmps24
    have hw : IntKind.i64.wrap ((at_ : Int) + 1) = at_ + 1 := IntWalk.i64_in _ (by omega)
    go_wp2
    go_still_tail 10, (by kernel_rfl)
    change wpList _ _ _ _ _ w.drew
    clear hw
    go_wp2
    go_ret
    exact ⟨rfl, g, H.out.moved s.length, ((Fr.refl _ w).setCell (p := ⟨b, 1, none⟩) (fun _ => Or.inl rfl) _).drew, fun k hk => .inl hk.symm⟩
  · have hlt : at_ + 1 < s.length := by omega
    have hx : s[at_ + 1]? = some s[at_ + 1] := List.getElem?_eq_getElem hlt
    have ht : ((at_ : Int) + 1 == s.length) = false := by simp; omega
    have hlt' : (at_ : Int) + 1 < s.length := by omega
    have hw : IntKind.i64.wrap ((at_ : Int) + 1) = at_ + 1 := IntWalk.i64_in _ (by omega)
    have hbd := toNat_bd s[at_ + 1]
    have hq1 : (0 : Int) ≤ (at_ : Int) + 1 := by omega
    have hq2 : ((at_ : Int) + 1).toNat = at_ + 1 := by omega
    have hbk := Lib.hid (toNat_back s[at_ + 1])
    by_cases hd : s[at_ + 1] = d
    · have hE : esc s d rx at_ out = (0, at_ + 2, out ++ [s[at_ + 1]]) := by unfold esc; rw [hx]; simp only [hd, if_true]
      rw [hE]; clear hE hx
      have ht2 := tb_eq hd
      have H := Lib.hid h; clear h; have HD := Lib.hid hd; clear hd
      go_enter Tryd.func24, Tryd.ntmps24
      go_wp2
      go_quiet (fail)
      go_wp2
      go_quiet (fail)
      go_wp2_with fail
      refine (rdr_writeByte b s at_ out _ g _ hbd (by exact H.out) (by omega)).mono ?_
      rintro e w1 ⟨rfl, g', h1, hf, hn1⟩
      rw [hbk.out] at h1
      have d1 := h1.cell1; have t2 := h1.thawed 1
      have H1 := Lib.hid h1; clear h1
      go_wp2
      go_ret
      refine ⟨rfl, g', H1.out.moved (at_ + 2), ?_, hn1⟩
      exact (((Fr.refl _ w).drewN _).trans' hf).setCell (p := ⟨b, 1, none⟩) (fun _ => Or.inl rfl) _
    · have ht2 := tb_ne hd
      by_cases hn : s[at_ + 1] = 10 ∧ rx = true
      · obtain ⟨h10, rfl⟩ := hn
        have hE : esc s d true at_ out = (2, at_ + 1, out) := by unfold esc; rw [hx]; simp only [hd, h10, if_false, and_self, if_true]; rw [if_neg (by rw [← h10]; exact hd)]
        rw [hE]; clear hE hx
        have ht3 : ((s[at_ + 1].toNat : Int) == 10) = true := by rw [h10]; rfl
        have H := Lib.hid h; clear h; have HD := Lib.hid hd; clear hd; clear h10
        go_enter Tryd.func24, Tryd.ntmps24
        go_wp2
        go_quiet (fail)
        go_wp2
        go_quiet (fail)
        go_wp2
        go_ret
        refine ⟨rfl, g, H.out.moved (at_ + 1), ?_, fun k hk => .inl hk.symm⟩
        exact ((Fr.refl _ w).setCell (p := ⟨b, 1, none⟩) (fun _ => Or.inl rfl) _).drewN _
      · have hE : esc s d rx at_ out = (0, at_ + 2, out ++ [92, s[at_ + 1]]) := by unfold esc; rw [hx]; simp only [hd, if_false, hn]
        rw [hE]; clear hE hx
        have ht3 : ((s[at_ + 1].toNat : Int) == 10) = false ∨ (((s[at_ + 1].toNat : Int) == 10) = true ∧ rx = false) := by
          by_cases h10 : s[at_ + 1] = 10
          · right; exact ⟨by rw [h10]; rfl, rx_no h10 hn⟩
          · left; exact tb_ne h10
        have H := Lib.hid h; clear h; have HD := Lib.hid hd; clear hd; clear hn
        rcases ht3 with ht3 | ⟨ht3, rfl⟩
        all_goals
          go_enter Tryd.func24, Tryd.ntmps24
          go_wp2
          go_quiet (fail)
          go_wp2
          go_quiet (fail)
          go_wp2_with fail
          refine (rdr_writeByte b s at_ out 92 g _ (by omega) (by exact H.out) (by omega)).mono ?_
          rintro e w0 ⟨rfl, g0, h0, hf0, hn0⟩
          go_wp2_with fail
          refine (rdr_writeByte b s at_ _ _ g0 _ hbd h0 (by simp; omega)).mono ?_
          rintro e w1 ⟨rfl, g', h1, hf, hn1⟩
          rw [hbk.out] at h1
          have d1 := h1.cell1; have t2 := h1.thawed 1
          have H1 := Lib.hid h1; clear h1; have H0 := Lib.hid h0; clear h0
          go_wp2
          go_ret
          have hsz := hf0.size
          have h1' := H1.out; simp only [List.append_assoc, List.cons_append, List.nil_append] at h1'
          refine ⟨rfl, g', Rdr.moved h1' (at_ + 2), ?_, fun k hk => ?_⟩
          · exact ((((Fr.refl _ w).drewN _).trans' hf0).trans hf (fun i hi h => h.imp_right fun h => by rcases hn0 i h.symm with h | h; exact h; simp [World.drewN] at h; omega)).setCell (p := ⟨b, 1, none⟩) (fun _ => Or.inl rfl) _
          · rcases hn1 k hk with h | h
            · exact hn0 k h.symm
            · exact .inr (by simp [World.drewN] at hsz; omega)

end Go.Proofs.YthdcpjmjdbldiaaDoor
