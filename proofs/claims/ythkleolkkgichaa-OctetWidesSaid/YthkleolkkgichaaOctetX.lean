/-
  Walks: Narrow of both sides.
-/
import Derived.Test.YthkleolkkgichaaBldRune
import Derived.Lib.OthersKept
import Derived.Deep.LoopGhost
namespace Go.Proofs.Ythkleolkkgichaa
open Go.RowKit

theorem fr_iterAt (w : World) (k : Nat) (s : ByteArray) (p : Nat) : Fr (fun j => j = k) w (w.iterAt k s p) :=
  ⟨rfl, rfl, rfl, by rw [Lib.iterAt_size]; exact Nat.le_refl _, fun i _ hi => Lib.iterAt_other w k i s p hi⟩

/-- The loop's relation. -/
def NarRel (l : List UInt8) (F : Option (List UInt8)) (w : World) (n : Nat) (v : Value) (wr : World) : Prop :=
  ∃ (k : Nat) (out : List UInt8), wr.heap[w.heap.size]? = some (.stringIter ⟨l.toArray⟩ k) ∧ wr.ownsRow 0 5 1 v out.length (bcells out) ∧ (∀ j, v.ownBlock = some j → w.heap.size < j) ∧ (out = [] → v = .slice none 0 0) ∧ Fr nob w wr ∧
    out.length ≤ k ∧ k ≤ l.length ∧ l.length < n + k ∧ nar l n k out = F

theorem conv_nil (w : World) : (convert 35 9 (.slice none 0 0)).run Try.prog w = .ok (.string ⟨#[]⟩) w := by kernel_rfl

def narV (F : Option (List UInt8)) : Value := .tuple #[.string ⟨(F.getD []).toArray⟩, .bool F.isSome]

set_option maxRecDepth 100000 in
set_option maxHeartbeats 1000000 in
theorem narrow_any (l : List UInt8) (w : World) (hl : l.length ≤ 1000000) :
    Calls Try.prog 13 #[.string ⟨l.toArray⟩] w fun e w' => e = .returned (narV (nar l (l.length + 1) 0 [])) ∧ Fr nob w w' := by
  obtain ⟨F, hF⟩ : ∃ F, nar l (l.length + 1) 0 [] = F := ⟨_, rfl⟩
  rw [hF]
  have HF := Lib.hid hF; clear hF
  obtain ⟨i0, hi, hz0, hz1, hz2⟩ := info_parts info_u8
  go_enter Try.func13, Try.ntmps13
  go_wp2_with fail
  go_loopg [4] (l.length + 1) (fun n v wr => NarRel l F w n v wr)
  case atStart => exact ⟨0, [], heap_alloc_new _ _, World.ownsRow_nil _ _ _ _, fun j h => (by cases h), fun _ => rfl, (Fr.refl _ _).alloc _, Nat.zero_le _, Nat.zero_le _, by omega, HF.out⟩
  case round =>
    obtain ⟨k, out, hit, hown, hblk, hnil, hfr, hout, hk, hn, hb⟩ := hrel
    obtain ⟨m, rfl⟩ : ∃ m, gk = m + 1 := ⟨gk - 1, by omega⟩
    have HI := Lib.hid hit; have HO := Lib.hid hown; have HBK := Lib.hid hblk; have HN := Lib.hid hnil; have HFR := Lib.hid hfr
    clear hit hown hblk hnil hfr
    by_cases hlt : k < l.length
    · cases e1 : nar1 l k with
      | some cm =>
        obtain ⟨c, d⟩ := cm
        have hnx : ∀ ty, (Instr.next (.pointer (some ⟨w.heap.size, 0, none⟩)) true ty).run Try.prog wr = .ok (.tuple #[.bool true, .int .i64 k, .int .i32 (c.toNat : Nat)]) (wr.iterAt w.heap.size ⟨l.toArray⟩ (k + d)) := by
          intro ty
          have := Lib.run_next_any_at (P := Try.prog) wr w.heap.size ⟨l.toArray⟩ k ty HI.out (by rw [bsize]; exact hlt)
          rw [decode_yes hlt e1] at this; exact this
        rw [nar_yes hlt e1] at hb
        obtain ⟨hd, hkd⟩ := nar1_le hlt e1
        have hbd := toNat_bd c
        have t1 : decide ((256 : Int) ≤ (c.toNat : Int)) = false := by simp; omega
        have t2 : ((c.toNat : Int) == 65533) = false := by simp; omega
        have HB := Lib.hid hb; clear hb e1
        have hw1 := HI.out
        have f1 := fr_iterAt wr w.heap.size ⟨l.toArray⟩ (k + d)
        have hi1 := Lib.iterAt_heap wr w.heap.size ⟨l.toArray⟩ k (k + d) hw1
        have hown := ownsRow_fr HO.out f1 (fun j hj e => by have := HBK.out j hj; omega)
        have HF1 := Lib.hid (HFR.out.trans f1 (fun i hi e => by omega))
        obtain ⟨w1, hw⟩ : ∃ w1, wr.iterAt w.heap.size ⟨l.toArray⟩ (k + d) = w1 := ⟨_, rfl⟩
        rw [hw] at hnx hi1 hown HF1
        have HI1 := Lib.hid hi1
        clear hw f1 hi1 hw1
        go_wp2_with (at_builtin; refine wpList_append_g rfl _ _ 35 rfl 5 i0 (.int .u8 0) 1 1 Try.underlying35 hi hz0 hz1 hz2 rfl (by decide) _ _ _ rfl (hown.alloc _) ⟨w1.heap.size, 0, none⟩ 1 1 [.int .u8 (c.toNat : Int)] rfl rfl ?c1 ?c2 ?c3 ?c4 ?_)
        case c1 =>
          intro j u hj
          match j, hj with
          | 0, hj => simp at hj; subst hj; simp [Addr.add]
        case c2 => intro u hu; simp at hu; subst hu; rfl
        case c3 => unfold maxLen; omega
        case c4 => omega
        intro v' w2 hown' hap
        have hlw : w.heap.size < w1.heap.size := lt_heap HI1.out
        have hi2 := hap.fr.heap (heap_alloc_lt (.cells #[.int .u8 (c.toNat : Int)] 5) HI1.out) (fun e => by have := HBK.out _ e; omega)
        have hf2 : Fr nob w w2 := (HF1.out.alloc _).trans hap.fr (fun i hi e => by have := HBK.out _ e; omega)
        have hb2 : ∀ j, v'.ownBlock = some j → w.heap.size < j := fun j hj => by
          rcases hap.old j hj with h1 | h1
          · exact HBK.out j h1
          · simp at h1; omega
        have HI2 := Lib.hid hi2; have HF2 := Lib.hid hf2; have HB2 := Lib.hid hb2; have HO2 := Lib.hid hown'
        clear hi2 hf2 hb2 hown' hown hap hnx
        go_wp2
        go_roundg m
        case measure => omega
        case rel =>
          refine ⟨k + d, out ++ [c], HI2.out, ?_, HB2.out, fun e => by simp at e, HF2.out, by simp; omega, by omega, by omega, HB.out⟩
          rw [bcells_append, List.length_append]; exact HO2.out
      | none =>
        have hnx : ∀ ty, (Instr.next (.pointer (some ⟨w.heap.size, 0, none⟩)) true ty).run Try.prog wr = .ok (.tuple #[.bool true, .int .i64 k, .int .i32 (Utf8.decode ⟨l.toArray⟩ k).1]) (wr.iterAt w.heap.size ⟨l.toArray⟩ (k + (Utf8.decode ⟨l.toArray⟩ k).2)) := by
          intro ty
          exact Lib.run_next_any_at (P := Try.prog) wr w.heap.size ⟨l.toArray⟩ k ty HI.out (by rw [bsize]; exact hlt)
        have h256 := decode_no hlt e1
        have hmx := decode_le ⟨l.toArray⟩ k
        rw [nar_no hlt e1] at hb
        have f1 := fr_iterAt wr w.heap.size ⟨l.toArray⟩ (k + (Utf8.decode ⟨l.toArray⟩ k).2)
        have HF1 := Lib.hid (HFR.out.trans f1 (fun i hi e => by omega))
        obtain ⟨w1, hw⟩ : ∃ w1, wr.iterAt w.heap.size ⟨l.toArray⟩ (k + (Utf8.decode ⟨l.toArray⟩ k).2) = w1 := ⟨_, rfl⟩
        rw [hw] at hnx HF1
        obtain ⟨r, hr⟩ : ∃ r, (Utf8.decode ⟨l.toArray⟩ k).1 = r := ⟨_, rfl⟩
        rw [hr] at hnx h256 hmx
        have h256' : decide ((256 : Int) ≤ (r : Int)) = true := by simp; omega
        have HB := Lib.hid hb
        clear hw f1 hr e1 hb h256
        go_wp2
        go_ret2
        exact ⟨by rw [← HB.out]; rfl, HF1.out⟩
    · have hnx : ∀ ty, (Instr.next (.pointer (some ⟨w.heap.size, 0, none⟩)) true ty).run Try.prog wr = .ok (.tuple #[.bool false]) wr := by
        intro ty
        exact Lib.run_next_end_at (P := Try.prog) wr w.heap.size ⟨l.toArray⟩ k ty HI.out (by rw [bsize]; exact hlt)
      rw [nar_end hlt] at hb
      have HB := Lib.hid hb; clear hb
      have hcv : ∀ v0, v0 = u4 → (convert 35 9 v0).run Try.prog wr = .ok (.string ⟨out.toArray⟩) wr := by
        rintro v0 rfl
        have ho := HO.out
        rcases ho.2 with ⟨hv, hz⟩ | ⟨g, cap, cur, hv, r⟩
        · have : out = [] := by simpa using hz
          subst this
          rw [hv]; exact conv_nil wr
        · rw [hv]
          refine run_conv_bytes Try.underlying35 Try.underlying5 Try.underlying9 ⟨g, 0, none⟩ cap out wr ?_
          exact ho.cells (g := g) (by rw [hv]; rfl)
      have hcv2 := hcv u4 rfl
      clear hcv
      go_wp2
      go_ret2
      exact ⟨by rw [← HB.out]; rfl, HFR.out⟩


set_option maxRecDepth 100000 in
set_option maxHeartbeats 2000000 in
theorem narrowR_any (l : List UInt8) (w : World) (hl : l.length ≤ 1000000) :
    Calls Try.prog 15 #[.string ⟨l.toArray⟩] w fun e w' => e = .returned (narV (nar l (l.length + 1) 0 [])) ∧ Fr nob w w' := by
  obtain ⟨F, hF⟩ : ∃ F, nar l (l.length + 1) 0 [] = F := ⟨_, rfl⟩
  rw [hF]
  have HF := Lib.hid hF; clear hF
  go_enter Try.func15, Try.ntmps15
  go_wp2_with fail
  go_loopg [0, 4] (l.length + 1) (fun n s o wr => ∃ (k : Nat) (out : List UInt8), s = .string ⟨(l.drop k).toArray⟩ ∧ o = .string ⟨out.toArray⟩ ∧ Fr nob w wr ∧ out.length ≤ k ∧ k ≤ l.length ∧ l.length < n + k ∧ nar l n k out = F)
  case atStart => exact ⟨0, [], rfl, rfl, Fr.refl _ _, Nat.zero_le _, Nat.zero_le _, by omega, HF.out⟩
  case round =>
    obtain ⟨k, out, rfl, rfl, hfr, hout, hk, hn, hb⟩ := hrel
    obtain ⟨m, rfl⟩ : ∃ m, gk = m + 1 := ⟨gk - 1, by omega⟩
    have HFR := Lib.hid hfr; clear hfr
    by_cases hlt : k < l.length
    · have hdr := List.drop_eq_getElem_cons hlt
      obtain ⟨b, hbq⟩ : ∃ b, l[k] = b := ⟨_, rfl⟩
      have hg0 : l[k]? = some b := by rw [List.getElem?_eq_getElem hlt, hbq]
      rw [hdr, hbq]
      obtain ⟨r, hr⟩ : ∃ r, l.drop (k + 1) = r := ⟨_, rfl⟩
      rw [hr]
      have hrl : r.length + (k + 1) = l.length := by rw [← hr, List.length_drop]; omega
      have hbd := toNat_bd b
      by_cases h : b.toNat < 128
      · have e1 : nar1 l k = some (b, 1) := by simp [nar1, hg0, h]
        rw [nar_yes hlt e1] at hb
        have t1 : decide ((b.toNat : Int) < 128) = true := by simp; omega
        have HB := Lib.hid hb; have HR := Lib.hid hr
        clear hb hr e1 hg0 hdr hbq
        go_wp2
        go_roundg m
        case measure => omega
        case rel => exact ⟨k + 1, out ++ [b], by rw [HR.out, bext]; simp, by rw [bext, bapp]; simp, HFR.out, by simp; omega, by omega, by omega, HB.out⟩
      · have t1 : decide ((b.toNat : Int) < 128) = false := by simp; omega
        by_cases h2 : b.toNat = 194 ∨ b.toNat = 195
        · cases r with
          | nil =>
            have e1 : nar1 l k = none := by
              have : l.length = k + 1 := by simpa using hrl.symm
              simp only [nar1, hg0, Option.getD_some]; rw [if_neg h, if_neg (by omega)]
            rw [nar_no hlt e1] at hb
            have HB := Lib.hid hb; have HR := Lib.hid hr
            clear hb hr e1 hg0 hdr hbq
            rcases h2 with h2 | h2
            · obtain rfl : b = 194 := UInt8.toNat_inj.1 h2
              clear h2 h t1 hbd
              go_wp2
              go_ret2
              exact ⟨by rw [← HB.out]; rfl, HFR.out⟩
            · obtain rfl : b = 195 := UInt8.toNat_inj.1 h2
              clear h2 h t1 hbd
              go_wp2
              go_ret2
              exact ⟨by rw [← HB.out]; rfl, HFR.out⟩
          | cons c r' =>
            have hg1 : l[k + 1]? = some c := by
              have := congrArg List.head? hr; simpa using this
            have hlt1 : k + 1 < l.length := by simp at hrl; omega
            have hr' : l.drop (k + 2) = r' := by have := congrArg List.tail hr; simpa [List.tail_drop] using this
            have hcd := toNat_bd c
            by_cases h3 : 128 ≤ c.toNat ∧ c.toNat < 192
            · obtain ⟨x, hx⟩ : ∃ x, ((b.toNat - 192) * 64 + c.toNat - 128).toUInt8 = x := ⟨_, rfl⟩
              have e1 : nar1 l k = some (x, 2) := by
                simp only [nar1, hg0, hg1, Option.getD_some]; rw [if_neg h, if_pos ⟨h2, hlt1, h3⟩, hx]
              rw [nar_yes hlt e1] at hb
              have hxn : x.toNat = (b.toNat - 192) * 64 + c.toNat - 128 := by rw [← hx]; simp; omega
              have t3 : decide ((128 : Int) ≤ (c.toNat : Int)) = true := by simp; omega
              have t4 : decide ((c.toNat : Int) < 192) = true := by simp; omega
              have HB := Lib.hid hb; have HR := Lib.hid hr'
              have hcv := fun wx : World => run_conv_one (P := Try.prog) (src := 35) (dst := 9) (e := 5) Try.underlying35 Try.underlying5 Try.underlying9 x wx
              have hlen2 : (1 : Int) < ((r'.length : Int) + 1 + 1) := by omega
              rcases h2 with h2 | h2
              · obtain rfl : b = 194 := UInt8.toNat_inj.1 h2
                have hv : ((128 + (c.toNat : Int) - 128) % 256) = (x.toNat : Int) := by
                  rw [hxn]; show _ = (((194 - 192) * 64 + c.toNat - 128 : Nat) : Int); omega
                rw [← hv] at hcv
                clear hb hr e1 hg0 hg1 hdr hbq h2 h t1 hbd hx hxn h3 hrl hv hr'
                go_wp2
                go_roundg m
                case measure => omega
                case rel => exact ⟨k + 2, out ++ [x], by rw [HR.out, bext]; simp, rfl, HFR.out.alloc _, by simp; omega, by omega, by omega, HB.out⟩
              · obtain rfl : b = 195 := UInt8.toNat_inj.1 h2
                have hv : ((192 + (c.toNat : Int) - 128) % 256) = (x.toNat : Int) := by
                  rw [hxn]; show _ = (((195 - 192) * 64 + c.toNat - 128 : Nat) : Int); omega
                rw [← hv] at hcv
                clear hb hr e1 hg0 hg1 hdr hbq h2 h t1 hbd hx hxn h3 hrl hv hr'
                go_wp2
                go_roundg m
                case measure => omega
                case rel => exact ⟨k + 2, out ++ [x], by rw [HR.out, bext]; simp, rfl, HFR.out.alloc _, by simp; omega, by omega, by omega, HB.out⟩
            · have e1 : nar1 l k = none := by
                simp only [nar1, hg0, hg1, Option.getD_some]; rw [if_neg h, if_neg (fun x => h3 x.2.2)]
              rw [nar_no hlt e1] at hb
              have HB := Lib.hid hb
              have hlen2 : (1 : Int) < ((r'.length : Int) + 1 + 1) := by omega
              by_cases h4 : 128 ≤ c.toNat
              · have t3 : decide ((128 : Int) ≤ (c.toNat : Int)) = true := by simp; omega
                have t4 : decide ((c.toNat : Int) < 192) = false := by simp; omega
                rcases h2 with h2 | h2
                · obtain rfl : b = 194 := UInt8.toNat_inj.1 h2
                  clear hb hr e1 hg0 hg1 hdr hbq h2 h t1 hbd h3 hrl hr'
                  go_wp2
                  go_ret2
                  exact ⟨by rw [← HB.out]; rfl, HFR.out⟩
                · obtain rfl : b = 195 := UInt8.toNat_inj.1 h2
                  clear hb hr e1 hg0 hg1 hdr hbq h2 h t1 hbd h3 hrl hr'
                  go_wp2
                  go_ret2
                  exact ⟨by rw [← HB.out]; rfl, HFR.out⟩
              · have t3 : decide ((128 : Int) ≤ (c.toNat : Int)) = false := by simp; omega
                rcases h2 with h2 | h2
                · obtain rfl : b = 194 := UInt8.toNat_inj.1 h2
                  clear hb hr e1 hg0 hg1 hdr hbq h2 h t1 hbd h3 hrl hr'
                  go_wp2
                  go_ret2
                  exact ⟨by rw [← HB.out]; rfl, HFR.out⟩
                · obtain rfl : b = 195 := UInt8.toNat_inj.1 h2
                  clear hb hr e1 hg0 hg1 hdr hbq h2 h t1 hbd h3 hrl hr'
                  go_wp2
                  go_ret2
                  exact ⟨by rw [← HB.out]; rfl, HFR.out⟩
        · have e1 : nar1 l k = none := by
            simp only [nar1, hg0, Option.getD_some]; rw [if_neg h, if_neg (by omega)]
          rw [nar_no hlt e1] at hb
          have t2 : ((b.toNat : Int) == 194) = false := by simp; omega
          have t3 : ((b.toNat : Int) == 195) = false := by simp; omega
          have HB := Lib.hid hb; have HR := Lib.hid hr
          clear hb hr e1 hg0 hdr hbq h2
          go_wp2
          go_ret2
          exact ⟨by rw [← HB.out]; rfl, HFR.out⟩
    · have hnil : l.drop k = [] := List.drop_eq_nil_of_le (by omega)
      rw [nar_end hlt] at hb
      rw [hnil]
      have HB := Lib.hid hb; clear hb hnil
      go_wp2
      go_ret2
      exact ⟨by rw [← HB.out]; rfl, HFR.out⟩

end Go.Proofs.Ythkleolkkgichaa
