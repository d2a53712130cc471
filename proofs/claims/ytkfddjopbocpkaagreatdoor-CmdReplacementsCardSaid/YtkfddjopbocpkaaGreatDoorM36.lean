/-
  Merged texts of this claim: CmdRepW.
-/
import Derived.Test.YtkfddjopbocpkaaGreatDoorCards
import Derived.Test.YtkfddjopbocpkaaGreatDoorTie
import Derived.Test.YtkfddjopbocpkaaGreatDoorM15
import Derived.Test.YtkfddjopbocpkaaGreatDoorM16
import Derived.Test.YtkfddjopbocpkaaGreatDoorM22
import Derived.Test.YtkfddjopbocpkaaGreatDoorM33
import Derived.Test.YtkfddjopbocpkaaGreatDoorM34

set_option linter.unusedVariables false
set_option linter.unusedSimpArgs false
/-
  CmdReplacements: bytes, each told as it must be, are a replacement of one part, just these; with an & behind of two. For every input; the tables of the library lie as start-up lays them (tied).
-/
namespace Go.Proofs.YtkfddjopbocpkaaGreatDoor
open Go.RowKit
attribute [-go_sem] storeVar
theorem rT_take {l : List UInt8} {k : Nat} (h : k < l.length) : rT (l.take (k + 1)) = rT (l.take k) ++ rT1 l[k] := by
  unfold rT; rw [List.take_succ_eq_append_getElem h, List.flatMap_append]; simp
theorem rT_le : ∀ l : List UInt8, (rT l).length ≤ 2 * l.length
  | [] => by simp [rT]
  | b :: l => by
    have h1 := rT_le l; have h2 := (rT_one b).2
    unfold rT at h1 ⊢
    rw [List.flatMap_cons, List.length_append, List.length_cons]; omega
set_option maxRecDepth 100000 in
set_option maxHeartbeats 4000000 in
theorem repl_far (l : List UInt8) (u : Value) (whole : Bool) (w : World) (hl : l.length ≤ maxLen) (hu : SB w l u) (hE : Env w) (h1 : 60 < l.length) :
    Calls Tryz.prog 4 #[u, .bool whole] w fun e w' => e = .returned (.bool true) ∧ Fr nob w w' := by
  unfold maxLen at hl
  obtain ⟨ua, uc, rfl⟩ := hu.shape
  have HU := Lib.hid hu
  have HA := Lib.hid (awake13_any w hE)
  clear hu
  have HE := Lib.hid hE; clear hE
  obtain ⟨n1, hn1⟩ : ∃ n1, l.length = n1 := ⟨_, rfl⟩
  rw [hn1] at h1 hl HU ⊢
  clear hn1
  have hd : ((n1 : Int) == 0) = false := by simp; omega
  go_enter Tryz.func4, Tryz.ntmps4
  go_wp2_with fail
  refine HA.out.mono ?_
  rintro e w1 ⟨rfl, f1⟩
  have F1 := Lib.hid f1; clear f1
  have HA2 := Lib.hid (awake13_any w1 (HE.out.on F1.out))
  go_wp2_with fail
  refine HA2.out.mono ?_
  rintro e w2 ⟨rfl, f2⟩
  have F2 := Lib.hid (F1.out.trans' f2); clear f2
  go_wp2
  go_ret
  exact ⟨rfl, F2.out⟩
set_option maxRecDepth 100000 in
set_option maxHeartbeats 4000000 in
theorem repl_none (l : List UInt8) (u : Value) (whole : Bool) (w : World) (hl : l.length ≤ maxLen) (hu : SB w l u) (hE : Env w) (h1 : l.length = 0) :
    Calls Tryz.prog 4 #[u, .bool whole] w fun e w' => e = .returned (.bool true) ∧ Fr nob w w' := by
  unfold maxLen at hl
  obtain ⟨ua, uc, rfl⟩ := hu.shape
  have HU := Lib.hid hu
  have HA := Lib.hid (awake13_any w hE)
  clear hu
  have HE := Lib.hid hE; clear hE
  obtain ⟨n1, hn1⟩ : ∃ n1, l.length = n1 := ⟨_, rfl⟩
  rw [hn1] at h1 hl HU ⊢
  clear hn1
  subst h1
  go_enter Tryz.func4, Tryz.ntmps4
  go_wp2_with fail
  refine HA.out.mono ?_
  rintro e w1 ⟨rfl, f1⟩
  have F1 := Lib.hid f1; clear f1
  have HA2 := Lib.hid (awake13_any w1 (HE.out.on F1.out))
  go_wp2_with fail
  refine HA2.out.mono ?_
  rintro e w2 ⟨rfl, f2⟩
  have F2 := Lib.hid (F1.out.trans' f2); clear f2
  go_wp2
  go_ret
  exact ⟨rfl, F2.out⟩
set_option maxRecDepth 100000 in
set_option maxHeartbeats 4000000 in
theorem repl_false (l : List UInt8) (u : Value) (w : World) (hl : l.length ≤ maxLen) (hu : SB w l u) (hE : Env w) (h0 : 0 < l.length) (h1 : l.length ≤ 60) :
    Calls Tryz.prog 4 #[u, .bool false] w fun e w' => e = .returned (.bool true) ∧ Fr nob w w' := by
  unfold maxLen at hl
  obtain ⟨ua, uc, rfl⟩ := hu.shape
  have HU := Lib.hid hu
  have HA := Lib.hid (awake13_any w hE)
  clear hu
  have hne : l ≠ [] := by intro e; rw [e] at h0; simp at h0
  obtain ⟨nd, hC⟩ := cmd_repl l false hne
  have hrl : (rS l false).length ≤ 130 := by
    have h1 := rT_le l
    unfold rS; simp only [List.length_cons, List.length_append, List.length_nil, Bool.false_eq_true, if_false]; omega
  have hp0 := fun (w' : World) (g : Fr nob w w') => cmd_parse nob (rS l false) 0 ⟨⟩ w' (by omega) (Nat.zero_le _) (hE.on g) (fun _ h => h.elim)
  rw [hC] at hp0
  have HP := Lib.hid (fun (X : List UInt8) (e : X = rS l false) (w' : World) (g : Fr nob w w') => by rw [← e] at hp0; exact hp0 w' g)
  have hcv := run_conv_one (P := Tryz.prog) Tryz.underlying22 Tryz.underlying5 Tryz.underlying9
  have hd : ((l.length : Int) == 0) = false := by simp; omega
  have HCV := Lib.hid (fun (w' : World) (g : Fr nob w w') => sb_conv (HU.out.on g) hne)
  clear hE hrl hp0 hC
  go_enter Tryz.func4, Tryz.ntmps4
  go_wp2_with fail
  refine HA.out.mono ?_
  rintro e w1 ⟨rfl, f1⟩
  have F1 := Lib.hid f1; clear f1
  go_wp2_with fail
  go_loopw [5, 28] (fun v i wr => ∃ k : Nat, i = .int .i64 k ∧ k ≤ l.length ∧ v = .string ⟨(rT (l.take k)).toArray⟩ ∧ Fr nob w wr) (fun _ i _ => l.length - (intOf i).toNat)
  case atStart => exact ⟨0, rfl, Nat.zero_le _, rfl, F1.out⟩
  case round =>
    obtain ⟨k, rfl, hk, rfl, fr⟩ := hrel
    have HFR := Lib.hid fr
    clear fr
    by_cases hlt : k < l.length
    · obtain ⟨q, off, cap, he, hc⟩ := HU.out.get HFR.out hlt
      injection he with e1 e2 e3
      subst e1; subst e3
      have HT := Lib.hid (rT_take hlt)
      obtain ⟨x, hx⟩ : ∃ x, l[k] = x := ⟨_, rfl⟩
      rw [hx] at hc HT
      have hle : (rT (l.take k)).length ≤ 200000 := by have := rT_le (l.take k); rw [List.length_take] at this; omega
      obtain ⟨out, ho⟩ : ∃ out, rT (l.take k) = out := ⟨_, rfl⟩
      rw [ho] at HT hle ⊢
      clear e2 hx ho
      unfold rT1 at HT
      by_cases h10 : x = 10
      · have t1 : ((x.toNat : Int) == 10) = true := tb_eq (b := 10) h10
        rw [if_pos h10] at HT
        clear h10 hcv
        go_wp2
        go_roundw
        case rel => exact ⟨k + 1, by go_num, by omega, by rw [HT.out], HFR.out⟩
        case measure => simp [intOf]; omega
      · have t1 : ((x.toNat : Int) == 10) = false := tb_ne (b := 10) h10
        rw [if_neg h10] at HT
        have hcx := hcv x
        by_cases h92 : x = 92
        · subst h92
          rw [if_pos (by simp)] at HT
          rw [show ((UInt8.toNat 92 : Nat) : Int) = 92 from rfl] at hcx
          clear hcv h10 t1
          go_wp2
          go_roundw
          case rel => exact ⟨k + 1, by go_num, by omega, by rw [HT.out], HFR.out.alloc _⟩
          case measure => simp [intOf]; omega
        · skip
          by_cases h47 : x = 47
          · subst h47
            rw [if_pos (by simp)] at HT
            rw [show ((UInt8.toNat 47 : Nat) : Int) = 47 from rfl] at hcx
            clear hcv h10 t1 h92
            go_wp2
            go_roundw
            case rel => exact ⟨k + 1, by go_num, by omega, by rw [HT.out], HFR.out.alloc _⟩
            case measure => simp [intOf]; omega
          · skip
            by_cases h38 : x = 38
            · subst h38
              rw [if_pos (by simp)] at HT
              rw [show ((UInt8.toNat 38 : Nat) : Int) = 38 from rfl] at hcx
              clear hcv h10 t1 h92 h47
              go_wp2
              go_roundw
              case rel => exact ⟨k + 1, by go_num, by omega, by rw [HT.out], HFR.out.alloc _⟩
              case measure => simp [intOf]; omega
            · rw [if_neg (by simp [h92, h47, h38])] at HT
              have t2 : ((x.toNat : Int) == 92) = false := tb_ne (b := 92) h92
              have t3 : ((x.toNat : Int) == 47) = false := tb_ne (b := 47) h47
              have t4 : ((x.toNat : Int) == 38) = false := tb_ne (b := 38) h38
              clear hcv h10 h92 h47 h38
              go_wp2
              go_roundw
              case rel => exact ⟨k + 1, by go_num, by omega, by rw [HT.out], HFR.out.alloc _⟩
              case measure => simp [intOf]; omega
    · obtain rfl : k = l.length := by omega
      rw [List.take_of_length_le (Nat.le_refl _)]
      have hle : (rT l).length ≤ 200000 := by have := rT_le l; omega
      obtain ⟨out, ho⟩ : ∃ out, rT l = out := ⟨_, rfl⟩
      have HOE := Lib.hid ho
      rw [ho] at hle ⊢
      have FR := HFR
      clear hcv ho
      go_wp2_with fail
      refine (HP.out _ (by unfold rS; rw [HOE.out]; (try simp)) _ FR.out).mono ?_
      rintro e w4 ⟨f4, vv, mv, rfl, hv, hm, _⟩
      obtain ⟨cs, pa, pc, rfl, hsz, hone, hpo, _, hrow⟩ := hv.opened
      obtain ⟨ma, mc, rfl⟩ := ownsRow_slice hm
      obtain ⟨pg, pcap, e1, _, hp0, hp1⟩ := hpo.get (k := 0) (Nat.zero_lt_succ _)
      injection e1 with e1
      subst e1
      have HI := Lib.hid (show (Tryz.prog.info? 35).map (·.size) = some cs.size by rw [hsz]; exact info_C)
      have HZ := Lib.hid (show zC.size = cs.size by rw [hsz]; rfl); have HO := Lib.hid hone; have HR := Lib.hid hrow
      clear hv hm hpo hsz hone hrow
      obtain ⟨hb5, f5⟩ := new_row w4 cs
      obtain ⟨w5, hw5⟩ : ∃ w5, w5 = (w4.alloc (.cells zC 35)).setRow w4.heap.size cs := ⟨_, rfl⟩
      rw [← hw5] at hb5 f5
      have rc := HR.out w5 _ hb5
      have p0 : ∀ W', Fr nob w5 W' → W'.cell? _ = some _ := fun _ g => g.cell (f5.cell hp0 (fun x => x)) (fun x => x)
      have p1 : ∀ W', Fr nob w5 W' → W'.cell? _ = some _ := fun _ g => g.cell (f5.cell hp1 (fun x => x)) (fun x => x)
      simp only at rc p0 p1
      have HW5 := Lib.hid hw5; have F5 := Lib.hid (FR.out.trans' (f4.trans' f5)); have B5 := Lib.hid hb5
      clear hw5 f4 f5 hb5 hp0 hp1
      go_wp2_with (first | refine wpList_store_row rfl 35 _ _ rfl w4.heap.size cs rfl rfl 35 _ (newAt _ _) HI.out HZ.out HO.out ?_ | rw [← HW5.out])
      have hcw := fun W' (g : Fr nob w5 W') => HCV.out W' (F5.out.trans' g)
      refine region_fr 21 (by kernel_rfl) (by kernel_rfl) ?_
      simp only [List.take_succ_cons, List.take_zero, List.drop_succ_cons, List.drop_zero]
      repeat (go_big_quiet_step (fail))
      refine wpQuiet_nil ?_
      intro wC fC
      have FC := Lib.hid (F5.out.trans' fC)
      go_wp2
      go_ret
      exact ⟨rfl, FC.out⟩
set_option maxRecDepth 100000 in
set_option maxHeartbeats 4000000 in
theorem repl_true (l : List UInt8) (u : Value) (w : World) (hl : l.length ≤ maxLen) (hu : SB w l u) (hE : Env w) (h0 : 0 < l.length) (h1 : l.length ≤ 60) :
    Calls Tryz.prog 4 #[u, .bool true] w fun e w' => e = .returned (.bool true) ∧ Fr nob w w' := by
  unfold maxLen at hl
  obtain ⟨ua, uc, rfl⟩ := hu.shape
  have HU := Lib.hid hu
  have HA := Lib.hid (awake13_any w hE)
  clear hu
  have hne : l ≠ [] := by intro e; rw [e] at h0; simp at h0
  obtain ⟨nd, hC⟩ := cmd_repl l true hne
  have hrl : (rS l true).length ≤ 130 := by
    have h1 := rT_le l
    unfold rS; simp only [List.length_cons, List.length_append, List.length_nil, if_true]; omega
  have hp0 := fun (w' : World) (g : Fr nob w w') => cmd_parse nob (rS l true) 0 ⟨⟩ w' (by omega) (Nat.zero_le _) (hE.on g) (fun _ h => h.elim)
  rw [hC] at hp0
  have HP := Lib.hid (fun (X : List UInt8) (e : X = rS l true) (w' : World) (g : Fr nob w w') => by rw [← e] at hp0; exact hp0 w' g)
  have hcv := run_conv_one (P := Tryz.prog) Tryz.underlying22 Tryz.underlying5 Tryz.underlying9
  have hd : ((l.length : Int) == 0) = false := by simp; omega
  have HCV := Lib.hid (fun (w' : World) (g : Fr nob w w') => sb_conv (HU.out.on g) hne)
  clear hE hrl hp0 hC
  go_enter Tryz.func4, Tryz.ntmps4
  go_wp2_with fail
  refine HA.out.mono ?_
  rintro e w1 ⟨rfl, f1⟩
  have F1 := Lib.hid f1; clear f1
  go_wp2_with fail
  go_loopw [5, 28] (fun v i wr => ∃ k : Nat, i = .int .i64 k ∧ k ≤ l.length ∧ v = .string ⟨(rT (l.take k)).toArray⟩ ∧ Fr nob w wr) (fun _ i _ => l.length - (intOf i).toNat)
  case atStart => exact ⟨0, rfl, Nat.zero_le _, rfl, F1.out⟩
  case round =>
    obtain ⟨k, rfl, hk, rfl, fr⟩ := hrel
    have HFR := Lib.hid fr
    clear fr
    by_cases hlt : k < l.length
    · obtain ⟨q, off, cap, he, hc⟩ := HU.out.get HFR.out hlt
      injection he with e1 e2 e3
      subst e1; subst e3
      have HT := Lib.hid (rT_take hlt)
      obtain ⟨x, hx⟩ : ∃ x, l[k] = x := ⟨_, rfl⟩
      rw [hx] at hc HT
      have hle : (rT (l.take k)).length ≤ 200000 := by have := rT_le (l.take k); rw [List.length_take] at this; omega
      obtain ⟨out, ho⟩ : ∃ out, rT (l.take k) = out := ⟨_, rfl⟩
      rw [ho] at HT hle ⊢
      clear e2 hx ho
      unfold rT1 at HT
      by_cases h10 : x = 10
      · have t1 : ((x.toNat : Int) == 10) = true := tb_eq (b := 10) h10
        rw [if_pos h10] at HT
        clear h10 hcv
        go_wp2
        go_roundw
        case rel => exact ⟨k + 1, by go_num, by omega, by rw [HT.out], HFR.out⟩
        case measure => simp [intOf]; omega
      · have t1 : ((x.toNat : Int) == 10) = false := tb_ne (b := 10) h10
        rw [if_neg h10] at HT
        have hcx := hcv x
        by_cases h92 : x = 92
        · subst h92
          rw [if_pos (by simp)] at HT
          rw [show ((UInt8.toNat 92 : Nat) : Int) = 92 from rfl] at hcx
          clear hcv h10 t1
          go_wp2
          go_roundw
          case rel => exact ⟨k + 1, by go_num, by omega, by rw [HT.out], HFR.out.alloc _⟩
          case measure => simp [intOf]; omega
        · skip
          by_cases h47 : x = 47
          · subst h47
            rw [if_pos (by simp)] at HT
            rw [show ((UInt8.toNat 47 : Nat) : Int) = 47 from rfl] at hcx
            clear hcv h10 t1 h92
            go_wp2
            go_roundw
            case rel => exact ⟨k + 1, by go_num, by omega, by rw [HT.out], HFR.out.alloc _⟩
            case measure => simp [intOf]; omega
          · skip
            by_cases h38 : x = 38
            · subst h38
              rw [if_pos (by simp)] at HT
              rw [show ((UInt8.toNat 38 : Nat) : Int) = 38 from rfl] at hcx
              clear hcv h10 t1 h92 h47
              go_wp2
              go_roundw
              case rel => exact ⟨k + 1, by go_num, by omega, by rw [HT.out], HFR.out.alloc _⟩
              case measure => simp [intOf]; omega
            · rw [if_neg (by simp [h92, h47, h38])] at HT
              have t2 : ((x.toNat : Int) == 92) = false := tb_ne (b := 92) h92
              have t3 : ((x.toNat : Int) == 47) = false := tb_ne (b := 47) h47
              have t4 : ((x.toNat : Int) == 38) = false := tb_ne (b := 38) h38
              clear hcv h10 h92 h47 h38
              go_wp2
              go_roundw
              case rel => exact ⟨k + 1, by go_num, by omega, by rw [HT.out], HFR.out.alloc _⟩
              case measure => simp [intOf]; omega
    · obtain rfl : k = l.length := by omega
      rw [List.take_of_length_le (Nat.le_refl _)]
      have hle : (rT l).length ≤ 200000 := by have := rT_le l; omega
      obtain ⟨out, ho⟩ : ∃ out, rT l = out := ⟨_, rfl⟩
      have HOE := Lib.hid ho
      rw [ho] at hle ⊢
      have FR := HFR
      clear hcv ho
      go_wp2_with fail
      refine (HP.out _ (by unfold rS; rw [HOE.out]; (try simp)) _ FR.out).mono ?_
      rintro e w4 ⟨f4, vv, mv, rfl, hv, hm, _⟩
      obtain ⟨cs, pa, pc, rfl, hsz, hone, hpo, _, hrow⟩ := hv.opened
      obtain ⟨ma, mc, rfl⟩ := ownsRow_slice hm
      obtain ⟨pg, pcap, e1, _, hp0, hp1⟩ := hpo.get (k := 0) (Nat.zero_lt_succ _)
      injection e1 with e1
      subst e1
      obtain ⟨pg2, pcap2, e2, _, hq0, _⟩ := hpo.get (k := 1) (Nat.lt_succ_self _)
      injection e2 with e2; injection e2 with e2; injection e2 with e2
      subst e2
      have HI := Lib.hid (show (Tryz.prog.info? 35).map (·.size) = some cs.size by rw [hsz]; exact info_C)
      have HZ := Lib.hid (show zC.size = cs.size by rw [hsz]; rfl); have HO := Lib.hid hone; have HR := Lib.hid hrow
      clear hv hm hpo hsz hone hrow
      obtain ⟨hb5, f5⟩ := new_row w4 cs
      obtain ⟨w5, hw5⟩ : ∃ w5, w5 = (w4.alloc (.cells zC 35)).setRow w4.heap.size cs := ⟨_, rfl⟩
      rw [← hw5] at hb5 f5
      have rc := HR.out w5 _ hb5
      have p0 : ∀ W', Fr nob w5 W' → W'.cell? _ = some _ := fun _ g => g.cell (f5.cell hp0 (fun x => x)) (fun x => x)
      have p1 : ∀ W', Fr nob w5 W' → W'.cell? _ = some _ := fun _ g => g.cell (f5.cell hp1 (fun x => x)) (fun x => x)
      have p2 : ∀ W', Fr nob w5 W' → W'.cell? _ = some _ := fun _ g => g.cell (f5.cell hq0 (fun x => x)) (fun x => x)
      simp only at rc p0 p1 p2
      clear hq0
      have HW5 := Lib.hid hw5; have F5 := Lib.hid (FR.out.trans' (f4.trans' f5)); have B5 := Lib.hid hb5
      clear hw5 f4 f5 hb5 hp0 hp1
      go_wp2_with (first | refine wpList_store_row rfl 35 _ _ rfl w4.heap.size cs rfl rfl 35 _ (newAt _ _) HI.out HZ.out HO.out ?_ | rw [← HW5.out])
      have hcw := fun W' (g : Fr nob w5 W') => HCV.out W' (F5.out.trans' g)
      refine region_fr 21 (by kernel_rfl) (by kernel_rfl) ?_
      simp only [List.take_succ_cons, List.take_zero, List.drop_succ_cons, List.drop_zero]
      repeat (go_big_quiet_step (fail))
      refine wpQuiet_nil ?_
      intro wC fC
      have FC := Lib.hid (F5.out.trans' fC)
      go_wp2
      go_ret
      exact ⟨rfl, FC.out⟩
theorem lawCmdReplacements (l : List UInt8) (u : Value) (whole : Bool) (w : World) (hl : l.length ≤ maxLen) (hu : SB w l u) (hE : Env w) :
    Calls Tryz.prog 4 #[u, .bool whole] w fun e w' => e = .returned (.bool true) ∧ Fr nob w w' := by
  by_cases h1 : 60 < l.length
  · exact repl_far l u whole w hl hu hE h1
  by_cases h0 : l.length = 0
  · exact repl_none l u whole w hl hu hE h0
  cases whole with
  | false => exact repl_false l u w hl hu hE (by omega) (by omega)
  | true => exact repl_true l u w hl hu hE (by omega) (by omega)
end Go.Proofs.YtkfddjopbocpkaaGreatDoor
