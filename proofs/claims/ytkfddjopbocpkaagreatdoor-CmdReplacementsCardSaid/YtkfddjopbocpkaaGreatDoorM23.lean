/-
  Merged texts of this claim: CmdB, CmdC.
-/
import Derived.Test.YtkfddjopbocpkaaGreatDoorM21
import Derived.Test.YtkfddjopbocpkaaGreatDoorM22

set_option linter.unusedVariables false
set_option linter.unusedSimpArgs false
/-
  Walks of package cmd: addresses, told, label, file, between, delimiter, lines, end. (Printed by tools/cmdb.py.)
-/
namespace Go.Proofs.YtkfddjopbocpkaaGreatDoor
open Go.RowKit

set_option maxRecDepth 100000 in
theorem cm_addrs_125 (w : World) : Calls Tryz.prog 54 #[.int .u8 125] w fun r w' => r = .returned (.int .i64 0) ∧ Fr nob w w' := by
  go_enter Tryz.func54, Tryz.ntmps54
  go_wp2
  go_ret
  exact ⟨rfl, Fr.refl _ _⟩
set_option maxRecDepth 100000 in
theorem cm_addrs_58 (w : World) : Calls Tryz.prog 54 #[.int .u8 58] w fun r w' => r = .returned (.int .i64 0) ∧ Fr nob w w' := by
  go_enter Tryz.func54, Tryz.ntmps54
  go_wp2
  go_ret
  exact ⟨rfl, Fr.refl _ _⟩
set_option maxRecDepth 100000 in
theorem cm_addrs_61 (w : World) : Calls Tryz.prog 54 #[.int .u8 61] w fun r w' => r = .returned (.int .i64 1) ∧ Fr nob w w' := by
  go_enter Tryz.func54, Tryz.ntmps54
  go_wp2
  go_ret
  exact ⟨rfl, Fr.refl _ _⟩
set_option maxRecDepth 100000 in
theorem cm_addrs_113 (w : World) : Calls Tryz.prog 54 #[.int .u8 113] w fun r w' => r = .returned (.int .i64 1) ∧ Fr nob w w' := by
  go_enter Tryz.func54, Tryz.ntmps54
  go_wp2
  go_ret
  exact ⟨rfl, Fr.refl _ _⟩
set_option maxRecDepth 100000 in
theorem cm_addrs_81 (w : World) : Calls Tryz.prog 54 #[.int .u8 81] w fun r w' => r = .returned (.int .i64 1) ∧ Fr nob w w' := by
  go_enter Tryz.func54, Tryz.ntmps54
  go_wp2
  go_ret
  exact ⟨rfl, Fr.refl _ _⟩
set_option maxRecDepth 100000 in
theorem cm_addrs_97 (w : World) : Calls Tryz.prog 54 #[.int .u8 97] w fun r w' => r = .returned (.int .i64 1) ∧ Fr nob w w' := by
  go_enter Tryz.func54, Tryz.ntmps54
  go_wp2
  go_ret
  exact ⟨rfl, Fr.refl _ _⟩
set_option maxRecDepth 100000 in
theorem cm_addrs_105 (w : World) : Calls Tryz.prog 54 #[.int .u8 105] w fun r w' => r = .returned (.int .i64 1) ∧ Fr nob w w' := by
  go_enter Tryz.func54, Tryz.ntmps54
  go_wp2
  go_ret
  exact ⟨rfl, Fr.refl _ _⟩
set_option maxRecDepth 100000 in
theorem cm_addrs_114 (w : World) : Calls Tryz.prog 54 #[.int .u8 114] w fun r w' => r = .returned (.int .i64 1) ∧ Fr nob w w' := by
  go_enter Tryz.func54, Tryz.ntmps54
  go_wp2
  go_ret
  exact ⟨rfl, Fr.refl _ _⟩
set_option maxRecDepth 100000 in
theorem cm_addrs_123 (w : World) : Calls Tryz.prog 54 #[.int .u8 123] w fun r w' => r = .returned (.int .i64 2) ∧ Fr nob w w' := by
  go_enter Tryz.func54, Tryz.ntmps54
  go_wp2
  go_ret
  exact ⟨rfl, Fr.refl _ _⟩
set_option maxRecDepth 100000 in
theorem cm_addrs_100 (w : World) : Calls Tryz.prog 54 #[.int .u8 100] w fun r w' => r = .returned (.int .i64 2) ∧ Fr nob w w' := by
  go_enter Tryz.func54, Tryz.ntmps54
  go_wp2
  go_ret
  exact ⟨rfl, Fr.refl _ _⟩
set_option maxRecDepth 100000 in
theorem cm_addrs_68 (w : World) : Calls Tryz.prog 54 #[.int .u8 68] w fun r w' => r = .returned (.int .i64 2) ∧ Fr nob w w' := by
  go_enter Tryz.func54, Tryz.ntmps54
  go_wp2
  go_ret
  exact ⟨rfl, Fr.refl _ _⟩
set_option maxRecDepth 100000 in
theorem cm_addrs_103 (w : World) : Calls Tryz.prog 54 #[.int .u8 103] w fun r w' => r = .returned (.int .i64 2) ∧ Fr nob w w' := by
  go_enter Tryz.func54, Tryz.ntmps54
  go_wp2
  go_ret
  exact ⟨rfl, Fr.refl _ _⟩
set_option maxRecDepth 100000 in
theorem cm_addrs_71 (w : World) : Calls Tryz.prog 54 #[.int .u8 71] w fun r w' => r = .returned (.int .i64 2) ∧ Fr nob w w' := by
  go_enter Tryz.func54, Tryz.ntmps54
  go_wp2
  go_ret
  exact ⟨rfl, Fr.refl _ _⟩
set_option maxRecDepth 100000 in
theorem cm_addrs_104 (w : World) : Calls Tryz.prog 54 #[.int .u8 104] w fun r w' => r = .returned (.int .i64 2) ∧ Fr nob w w' := by
  go_enter Tryz.func54, Tryz.ntmps54
  go_wp2
  go_ret
  exact ⟨rfl, Fr.refl _ _⟩
set_option maxRecDepth 100000 in
theorem cm_addrs_72 (w : World) : Calls Tryz.prog 54 #[.int .u8 72] w fun r w' => r = .returned (.int .i64 2) ∧ Fr nob w w' := by
  go_enter Tryz.func54, Tryz.ntmps54
  go_wp2
  go_ret
  exact ⟨rfl, Fr.refl _ _⟩
set_option maxRecDepth 100000 in
theorem cm_addrs_108 (w : World) : Calls Tryz.prog 54 #[.int .u8 108] w fun r w' => r = .returned (.int .i64 2) ∧ Fr nob w w' := by
  go_enter Tryz.func54, Tryz.ntmps54
  go_wp2
  go_ret
  exact ⟨rfl, Fr.refl _ _⟩
set_option maxRecDepth 100000 in
theorem cm_addrs_110 (w : World) : Calls Tryz.prog 54 #[.int .u8 110] w fun r w' => r = .returned (.int .i64 2) ∧ Fr nob w w' := by
  go_enter Tryz.func54, Tryz.ntmps54
  go_wp2
  go_ret
  exact ⟨rfl, Fr.refl _ _⟩
set_option maxRecDepth 100000 in
theorem cm_addrs_78 (w : World) : Calls Tryz.prog 54 #[.int .u8 78] w fun r w' => r = .returned (.int .i64 2) ∧ Fr nob w w' := by
  go_enter Tryz.func54, Tryz.ntmps54
  go_wp2
  go_ret
  exact ⟨rfl, Fr.refl _ _⟩
set_option maxRecDepth 100000 in
theorem cm_addrs_112 (w : World) : Calls Tryz.prog 54 #[.int .u8 112] w fun r w' => r = .returned (.int .i64 2) ∧ Fr nob w w' := by
  go_enter Tryz.func54, Tryz.ntmps54
  go_wp2
  go_ret
  exact ⟨rfl, Fr.refl _ _⟩
set_option maxRecDepth 100000 in
theorem cm_addrs_80 (w : World) : Calls Tryz.prog 54 #[.int .u8 80] w fun r w' => r = .returned (.int .i64 2) ∧ Fr nob w w' := by
  go_enter Tryz.func54, Tryz.ntmps54
  go_wp2
  go_ret
  exact ⟨rfl, Fr.refl _ _⟩
set_option maxRecDepth 100000 in
theorem cm_addrs_120 (w : World) : Calls Tryz.prog 54 #[.int .u8 120] w fun r w' => r = .returned (.int .i64 2) ∧ Fr nob w w' := by
  go_enter Tryz.func54, Tryz.ntmps54
  go_wp2
  go_ret
  exact ⟨rfl, Fr.refl _ _⟩
set_option maxRecDepth 100000 in
theorem cm_addrs_122 (w : World) : Calls Tryz.prog 54 #[.int .u8 122] w fun r w' => r = .returned (.int .i64 2) ∧ Fr nob w w' := by
  go_enter Tryz.func54, Tryz.ntmps54
  go_wp2
  go_ret
  exact ⟨rfl, Fr.refl _ _⟩
set_option maxRecDepth 100000 in
theorem cm_addrs_98 (w : World) : Calls Tryz.prog 54 #[.int .u8 98] w fun r w' => r = .returned (.int .i64 2) ∧ Fr nob w w' := by
  go_enter Tryz.func54, Tryz.ntmps54
  go_wp2
  go_ret
  exact ⟨rfl, Fr.refl _ _⟩
set_option maxRecDepth 100000 in
theorem cm_addrs_116 (w : World) : Calls Tryz.prog 54 #[.int .u8 116] w fun r w' => r = .returned (.int .i64 2) ∧ Fr nob w w' := by
  go_enter Tryz.func54, Tryz.ntmps54
  go_wp2
  go_ret
  exact ⟨rfl, Fr.refl _ _⟩
set_option maxRecDepth 100000 in
theorem cm_addrs_84 (w : World) : Calls Tryz.prog 54 #[.int .u8 84] w fun r w' => r = .returned (.int .i64 2) ∧ Fr nob w w' := by
  go_enter Tryz.func54, Tryz.ntmps54
  go_wp2
  go_ret
  exact ⟨rfl, Fr.refl _ _⟩
set_option maxRecDepth 100000 in
theorem cm_addrs_99 (w : World) : Calls Tryz.prog 54 #[.int .u8 99] w fun r w' => r = .returned (.int .i64 2) ∧ Fr nob w w' := by
  go_enter Tryz.func54, Tryz.ntmps54
  go_wp2
  go_ret
  exact ⟨rfl, Fr.refl _ _⟩
set_option maxRecDepth 100000 in
theorem cm_addrs_119 (w : World) : Calls Tryz.prog 54 #[.int .u8 119] w fun r w' => r = .returned (.int .i64 2) ∧ Fr nob w w' := by
  go_enter Tryz.func54, Tryz.ntmps54
  go_wp2
  go_ret
  exact ⟨rfl, Fr.refl _ _⟩
set_option maxRecDepth 100000 in
theorem cm_addrs_115 (w : World) : Calls Tryz.prog 54 #[.int .u8 115] w fun r w' => r = .returned (.int .i64 2) ∧ Fr nob w w' := by
  go_enter Tryz.func54, Tryz.ntmps54
  go_wp2
  go_ret
  exact ⟨rfl, Fr.refl _ _⟩
set_option maxRecDepth 100000 in
theorem cm_addrs_121 (w : World) : Calls Tryz.prog 54 #[.int .u8 121] w fun r w' => r = .returned (.int .i64 2) ∧ Fr nob w w' := by
  go_enter Tryz.func54, Tryz.ntmps54
  go_wp2
  go_ret
  exact ⟨rfl, Fr.refl _ _⟩
set_option maxRecDepth 100000 in
set_option maxHeartbeats 1000000 in
theorem cm_addrs (n : UInt8) (w : World) : Calls Tryz.prog 54 #[.int .u8 (n.toNat : Int)] w fun r w' => r = .returned (.int .i64 (addrsC n)) ∧ Fr nob w w' := by
  by_cases h125 : n = 125
  · subst h125; exact cm_addrs_125 w
  by_cases h58 : n = 58
  · subst h58; exact cm_addrs_58 w
  by_cases h61 : n = 61
  · subst h61; exact cm_addrs_61 w
  by_cases h113 : n = 113
  · subst h113; exact cm_addrs_113 w
  by_cases h81 : n = 81
  · subst h81; exact cm_addrs_81 w
  by_cases h97 : n = 97
  · subst h97; exact cm_addrs_97 w
  by_cases h105 : n = 105
  · subst h105; exact cm_addrs_105 w
  by_cases h114 : n = 114
  · subst h114; exact cm_addrs_114 w
  by_cases h123 : n = 123
  · subst h123; exact cm_addrs_123 w
  by_cases h100 : n = 100
  · subst h100; exact cm_addrs_100 w
  by_cases h68 : n = 68
  · subst h68; exact cm_addrs_68 w
  by_cases h103 : n = 103
  · subst h103; exact cm_addrs_103 w
  by_cases h71 : n = 71
  · subst h71; exact cm_addrs_71 w
  by_cases h104 : n = 104
  · subst h104; exact cm_addrs_104 w
  by_cases h72 : n = 72
  · subst h72; exact cm_addrs_72 w
  by_cases h108 : n = 108
  · subst h108; exact cm_addrs_108 w
  by_cases h110 : n = 110
  · subst h110; exact cm_addrs_110 w
  by_cases h78 : n = 78
  · subst h78; exact cm_addrs_78 w
  by_cases h112 : n = 112
  · subst h112; exact cm_addrs_112 w
  by_cases h80 : n = 80
  · subst h80; exact cm_addrs_80 w
  by_cases h120 : n = 120
  · subst h120; exact cm_addrs_120 w
  by_cases h122 : n = 122
  · subst h122; exact cm_addrs_122 w
  by_cases h98 : n = 98
  · subst h98; exact cm_addrs_98 w
  by_cases h116 : n = 116
  · subst h116; exact cm_addrs_116 w
  by_cases h84 : n = 84
  · subst h84; exact cm_addrs_84 w
  by_cases h99 : n = 99
  · subst h99; exact cm_addrs_99 w
  by_cases h119 : n = 119
  · subst h119; exact cm_addrs_119 w
  by_cases h115 : n = 115
  · subst h115; exact cm_addrs_115 w
  by_cases h121 : n = 121
  · subst h121; exact cm_addrs_121 w
  have t125 : ((n.toNat : Int) == 125) = false := tb_ne (b := 125) h125
  have t58 : ((n.toNat : Int) == 58) = false := tb_ne (b := 58) h58
  have t61 : ((n.toNat : Int) == 61) = false := tb_ne (b := 61) h61
  have t113 : ((n.toNat : Int) == 113) = false := tb_ne (b := 113) h113
  have t81 : ((n.toNat : Int) == 81) = false := tb_ne (b := 81) h81
  have t97 : ((n.toNat : Int) == 97) = false := tb_ne (b := 97) h97
  have t105 : ((n.toNat : Int) == 105) = false := tb_ne (b := 105) h105
  have t114 : ((n.toNat : Int) == 114) = false := tb_ne (b := 114) h114
  have t123 : ((n.toNat : Int) == 123) = false := tb_ne (b := 123) h123
  have t100 : ((n.toNat : Int) == 100) = false := tb_ne (b := 100) h100
  have t68 : ((n.toNat : Int) == 68) = false := tb_ne (b := 68) h68
  have t103 : ((n.toNat : Int) == 103) = false := tb_ne (b := 103) h103
  have t71 : ((n.toNat : Int) == 71) = false := tb_ne (b := 71) h71
  have t104 : ((n.toNat : Int) == 104) = false := tb_ne (b := 104) h104
  have t72 : ((n.toNat : Int) == 72) = false := tb_ne (b := 72) h72
  have t108 : ((n.toNat : Int) == 108) = false := tb_ne (b := 108) h108
  have t110 : ((n.toNat : Int) == 110) = false := tb_ne (b := 110) h110
  have t78 : ((n.toNat : Int) == 78) = false := tb_ne (b := 78) h78
  have t112 : ((n.toNat : Int) == 112) = false := tb_ne (b := 112) h112
  have t80 : ((n.toNat : Int) == 80) = false := tb_ne (b := 80) h80
  have t120 : ((n.toNat : Int) == 120) = false := tb_ne (b := 120) h120
  have t122 : ((n.toNat : Int) == 122) = false := tb_ne (b := 122) h122
  have t98 : ((n.toNat : Int) == 98) = false := tb_ne (b := 98) h98
  have t116 : ((n.toNat : Int) == 116) = false := tb_ne (b := 116) h116
  have t84 : ((n.toNat : Int) == 84) = false := tb_ne (b := 84) h84
  have t99 : ((n.toNat : Int) == 99) = false := tb_ne (b := 99) h99
  have t119 : ((n.toNat : Int) == 119) = false := tb_ne (b := 119) h119
  have t115 : ((n.toNat : Int) == 115) = false := tb_ne (b := 115) h115
  have t121 : ((n.toNat : Int) == 121) = false := tb_ne (b := 121) h121
  have e : addrsC n = -1 := by unfold addrsC; rw [if_neg (by rintro (h | h); exact h125 h; exact h58 h), if_neg (by rintro (h | h | h | h | h | h); exact h61 h; exact h113 h; exact h81 h; exact h97 h; exact h105 h; exact h114 h), if_neg (by rintro (h | h | h | h | h | h | h | h | h | h | h | h | h | h | h | h | h | h | h | h | h); exact h123 h; exact h100 h; exact h68 h; exact h103 h; exact h71 h; exact h104 h; exact h72 h; exact h108 h; exact h110 h; exact h78 h; exact h112 h; exact h80 h; exact h120 h; exact h122 h; exact h98 h; exact h116 h; exact h84 h; exact h99 h; exact h119 h; exact h115 h; exact h121 h)]
  rw [e]
  clear e h125 h58 h61 h113 h81 h97 h105 h114 h123 h100 h68 h103 h71 h104 h72 h108 h110 h78 h112 h80 h120 h122 h98 h116 h84 h99 h119 h115 h121
  go_enter Tryz.func54, Tryz.ntmps54
  go_wp2
  go_ret
  exact ⟨rfl, Fr.refl _ _⟩

set_option maxRecDepth 100000 in
theorem cm_told (g : GV) (v : Value) (w : World) (h : GVal nob w g v) : Calls Tryz.prog 55 #[v] w fun r w' => r = .returned (.int .i64 (toldC g)) ∧ Fr nob w w' := by
  obtain ⟨⟨k1, n1, t1, d1⟩, ⟨k2, n2, t2, d2⟩, no⟩ := g
  obtain ⟨u1, u2, rfl, r1, r2⟩ := h
  have o1 := r1.shape; have o2 := r2.shape
  clear r1 r2
  unfold toldC
  simp only
  rcases o1 with rfl | ⟨i1, y1, rfl⟩ <;> rcases o2 with rfl | ⟨i2, y2, rfl⟩
  all_goals
    by_cases h2 : k2 = 0
    · subst h2
      rw [if_neg (by simp)]
      by_cases h1 : k1 = 0
      · subst h1
        rw [if_neg (by simp)]
        go_enter Tryz.func55, Tryz.ntmps55
        go_wp2
        go_ret
        exact ⟨rfl, (Fr.refl _ _).alloc _⟩
      · have e1 : (k1 != 0) = true := by simpa using h1
        rw [if_pos h1]
        go_enter Tryz.func55, Tryz.ntmps55
        go_wp2
        go_ret
        exact ⟨rfl, (Fr.refl _ _).alloc _⟩
    · have e2 : (k2 != 0) = true := by simpa using h2
      rw [if_pos h2]
      go_enter Tryz.func55, Tryz.ntmps55
      go_wp2
      go_ret
      exact ⟨rfl, (Fr.refl _ _).alloc _⟩

theorem index_upTo (D : List UInt8) (w : World) (h : D.length ≤ 1000000) : Calls Tryz.prog 115 #[.string ⟨D.toArray⟩, .string ⟨#[10, 59]⟩] w fun e w' => e = .returned (.int .i64 (if (upTo D true).length < D.length then ((upTo D true).length : Int) else -1)) ∧ Fr nob w w' := by
  have := indexAny_ends D true w h
  rw [indexAny_upTo] at this
  exact this
set_option maxRecDepth 100000 in
set_option maxHeartbeats 1000000 in
theorem cm_label (b : Nat) (l : List UInt8) (x must : Bool) (s : AdS) (S : Nat → Prop) (w : World) (hl : l.length ≤ 99000) (ha : s.at_ ≤ l.length) (h : CRd b l x s S w) :
    Calls Tryz.prog 89 #[.pointer (some ⟨b, 0, none⟩), .bool must] w fun r w' => r = .returned (.string ⟨(labelC l must s).1.toArray⟩) ∧ CRd b l x (labelC l must s).2 S w' ∧ Stp S w S w' := by
  have HN := Lib.hid (fun w' => name_any l s.at_ true w' (by omega) ha)
  have HI := Lib.hid (fun w' => index_upTo (l.drop s.at_) w' (by rw [List.length_drop]; omega))
  have hul := upTo_le (l.drop s.at_) true
  have hut := upTo_take (l.drop s.at_) true
  have HM := Lib.hid (fun (p : Nat) (e : Int) w' (f : Fr nob w w') => cm_moved b l x s S e p w' (h.on f))
  have HF := Lib.hid (fun (p : Nat) (e : Int) => show (if (namL l s.at_ true).2.2 = 14 ∧ must = false then p = s.at_ + (upTo (l.drop s.at_) true).length ∧ e = 0 else p = (namL l s.at_ true).2.1 ∧ e = (namL l s.at_ true).2.2) → labelC l must s = ((namL l s.at_ true).1, movedC s p e) from by
    intro h
    unfold labelC
    split at h
    · next hc => rw [if_pos hc, h.1, h.2]
    · next hc => rw [if_neg hc, h.1, h.2])
  obtain ⟨mv, h⟩ := h
  have rr := rule5 h.blk
  obtain ⟨p0, ms, e0⟩ := s
  simp only at HN HI HF hul hut ha rr
  have hul2 : (upTo (l.drop p0) true).length ≤ l.length - p0 := by rw [List.length_drop] at hul; exact hul
  have hwin : (upTo (l.drop p0) true).length < (l.drop p0).length → (l.drop p0).take (upTo (l.drop p0) true).length = upTo (l.drop p0) true := fun _ => hut
  have hwhole : ¬ (upTo (l.drop p0) true).length < (l.drop p0).length → upTo (l.drop p0) true = l.drop p0 := fun hn => by rw [← hut]; exact List.take_of_length_le (by omega)
  obtain ⟨U, hU⟩ : ∃ U, upTo (l.drop p0) true = U := ⟨_, rfl⟩
  rw [hU] at HI HF hul hul2 hwin hwhole
  obtain ⟨D, hD⟩ : ∃ D, l.drop p0 = D := ⟨_, rfl⟩
  have HD := Lib.hid hD
  rw [hD] at HI hul hwin hwhole
  obtain ⟨NL, hNL⟩ : ∃ NL, namL l p0 true = NL := ⟨_, rfl⟩
  obtain ⟨nt, nq, nz⟩ := NL
  rw [hNL] at HN HF
  simp only at HN HF
  have HUL := Lib.hid hul; have HWN := Lib.hid hwin; have HWH := Lib.hid hwhole; have HUL2 := Lib.hid hul2
  clear h hut hU hNL hul hwin hwhole hul2 hD
  by_cases hc : nz = 14 ∧ must = false
  · obtain ⟨rfl, rfl⟩ := hc
    have hE := HF.out (p0 + U.length) 0 (by simp)
    rw [hE]
    clear hE HF
    have hl2 : (p0 : Int) ≤ l.length := by omega
    go_enter Tryz.func89, Tryz.ntmps89
    go_wp2_with fail
    refine region_fr 15 (by kernel_rfl) (by kernel_rfl) ?_
    simp only [List.take_succ_cons, List.take_zero, List.drop_succ_cons, List.drop_zero]
    repeat (quiet_step (with_reducible exact calls_fr (HN.out _)))
    refine wpQuiet_nil ?_
    intro wC fC
    go_wp2_with fail
    refine region_fr 8 (by kernel_rfl) (by kernel_rfl) ?_
    simp only [List.take_succ_cons, List.take_zero, List.drop_succ_cons, List.drop_zero]
    repeat (quiet_step (fail))
    refine wpQuiet_nil ?_
    intro wD fD'
    have fD := fC.trans' fD'
    clear fC fD'
    by_cases hlt : U.length < D.length
    · have hI := HI.out
      simp only [if_pos hlt] at hI
      have HI2 := Lib.hid hI
      have hq := HWN.out hlt
      have h0 : (0 : Int) ≤ U.length := by omega
      have h1 : (U.length : Int) ≤ D.length := by omega
      clear hI HI hlt
      go_wp2_with fail
      rw [HD.out]
      refine (HI2.out _).mono ?_
      rintro z w1 ⟨rfl, f1⟩
      have f2 := fD.trans' f1
      clear fD f1
      have hsl : (ByteArray.mk D.toArray).extract 0 U.length = ⟨U.toArray⟩ := by rw [bext]; simp [hq]
      have hb : (U.length : Int) ≤ 100000 := by have := HUL2.out; omega
      have hM := HM.out (p0 + U.length) 0 w1 f2
      rw [show ((p0 + U.length : Nat) : Int) = (p0 : Int) + (U.length : Int) by omega] at hM
      have HM2 := Lib.hid hM
      clear hM hq
      go_wp2_with fail
      refine HM2.out.mono ?_
      rintro z w2 ⟨rfl, h2, st2⟩
      clear rr hsl
      go_wp2
      go_ret
      exact ⟨rfl, h2, (Stp.of f2).trans st2⟩
    · have hI := HI.out
      simp only [if_neg hlt] at hI
      have HI2 := Lib.hid hI
      have hUD := HWH.out hlt
      have hb : (D.length : Int) ≤ 100000 := by rw [← hUD]; have := HUL2.out; omega
      clear hI HI hlt
      go_wp2_with fail
      rw [HD.out]
      refine (HI2.out _).mono ?_
      rintro z w1 ⟨rfl, f1⟩
      have f2 := fD.trans' f1
      clear fD f1
      have hM := HM.out (p0 + U.length) 0 w1 f2
      rw [show ((p0 + U.length : Nat) : Int) = (p0 : Int) + (D.length : Int) by rw [hUD]; omega] at hM
      have HM2 := Lib.hid hM
      clear hM hUD
      go_wp2_with fail
      refine HM2.out.mono ?_
      rintro z w2 ⟨rfl, h2, st2⟩
      clear rr
      go_wp2
      go_ret
      exact ⟨rfl, h2, (Stp.of f2).trans st2⟩
  · have hE := HF.out nq nz (by rw [if_neg hc]; exact ⟨rfl, rfl⟩)
    rw [hE]
    clear hE HF
    have hc' : (nz == 14) = false ∨ ((nz == 14) = true ∧ must = true) := by
      by_cases h14 : nz = 14
      · exact .inr ⟨by simpa using h14, by cases must with | true => rfl | false => exact absurd ⟨h14, rfl⟩ hc⟩
      · exact .inl (by simpa using h14)
    clear hc
    rcases hc' with h1 | ⟨h1, rfl⟩
    all_goals
      go_enter Tryz.func89, Tryz.ntmps89
      go_wp2_with fail
      refine region_fr 15 (by kernel_rfl) (by kernel_rfl) ?_
      simp only [List.take_succ_cons, List.take_zero, List.drop_succ_cons, List.drop_zero]
      repeat (quiet_step (with_reducible exact calls_fr (HN.out _)))
      refine wpQuiet_nil ?_
      intro wC fC
      go_wp2_with fail
      refine (HM.out _ _ _ fC).mono ?_
      rintro z w2 ⟨rfl, h2, st2⟩
      clear rr
      go_wp2
      go_ret
      exact ⟨rfl, h2, (Stp.of fC).trans st2⟩

set_option maxRecDepth 100000 in
set_option maxHeartbeats 1000000 in
theorem cm_file (b : Nat) (l : List UInt8) (x : Bool) (s : AdS) (S : Nat → Prop) (w : World) (hl : l.length ≤ 99000) (ha : s.at_ ≤ l.length) (h : CRd b l x s S w) :
    Calls Tryz.prog 91 #[.pointer (some ⟨b, 0, none⟩)] w fun r w' => r = .returned (.string ⟨(fileC l s).1.toArray⟩) ∧ CRd b l x (fileC l s).2 S w' ∧ Stp S w S w' := by
  have HN := Lib.hid (fun w' => name_any l s.at_ false w' (by omega) ha)
  have HX := Lib.hid (cm_next b l x s S [32, 9] w (by omega) h)
  have HM := Lib.hid (fun (p : Nat) (e : Int) w' (f : Fr nob w w') => cm_moved b l x s S e p w' (h.on f))
  have HFA := Lib.hid (fun w' (f : Fr nob w w') => cm_fail b l x s S 2 s.at_ w' (h.on f))
  unfold fileC
  obtain ⟨q, hq⟩ : ∃ q, nextC l s [32, 9] = q := ⟨_, rfl⟩
  rw [hq] at HX ⊢
  obtain ⟨mv, h⟩ := h
  have rr := rule5 h.blk
  obtain ⟨p0, ms, e0⟩ := s
  simp only at HN HFA rr ⊢
  obtain ⟨NL, hNL⟩ : ∃ NL, namL l p0 false = NL := ⟨_, rfl⟩
  obtain ⟨nt, nq, nz⟩ := NL
  rw [hNL] at HN ⊢
  simp only at HN ⊢
  clear h hNL hq
  cases q with
  | false =>
    rw [if_pos rfl]
    go_enter Tryz.func91, Tryz.ntmps91
    go_wp2_with fail
    refine HX.out.mono ?_
    rintro z w1 ⟨rfl, f1⟩
    go_wp2_with fail
    refine (HFA.out _ f1).mono ?_
    rintro z w2 ⟨rfl, h2, st2⟩
    clear rr
    go_wp2
    go_ret
    exact ⟨rfl, h2, (Stp.of f1).trans st2⟩
  | true =>
    rw [if_neg (by simp)]
    go_enter Tryz.func91, Tryz.ntmps91
    go_wp2_with fail
    refine HX.out.mono ?_
    rintro z w1 ⟨rfl, f1⟩
    go_wp2_with fail
    refine region_fr 15 (by kernel_rfl) (by kernel_rfl) ?_
    simp only [List.take_succ_cons, List.take_zero, List.drop_succ_cons, List.drop_zero]
    repeat (quiet_step (with_reducible exact calls_fr (HN.out _)))
    refine wpQuiet_nil ?_
    intro wC fC'
    have fC := f1.trans' fC'
    clear f1 fC'
    go_wp2_with fail
    refine (HM.out _ _ _ fC).mono ?_
    rintro z w2 ⟨rfl, h2, st2⟩
    clear rr
    go_wp2
    go_ret
    exact ⟨rfl, h2, (Stp.of fC).trans st2⟩

set_option maxRecDepth 100000 in
set_option maxHeartbeats 1000000 in
theorem cm_between (b : Nat) (l : List UInt8) (d : UInt8) (x rx : Bool) (s : AdS) (S : Nat → Prop) (w : World) (hl : l.length ≤ 99000) (ha : s.at_ ≤ l.length) (h : CRd b l x s S w) :
    Calls Tryz.prog 120 #[.pointer (some ⟨b, 0, none⟩), .int .u8 (d.toNat : Int), .bool rx] w fun r w' => r = .returned (.string ⟨(betwC l d rx s).1.toArray⟩) ∧ CRd b l x (betwC l d rx s).2 S w' ∧ Stp S w S w' := by
  have HN := Lib.hid (fun w' => btw_any l s.at_ d rx w' (by omega) ha)
  have HX := Lib.hid (cm_ok b l x s S w h)
  have HM := Lib.hid (fun (p : Nat) (e : Int) w' (f : Fr nob w w') => cm_moved b l x s S e p w' (h.on f))
  unfold betwC
  have H := Lib.hid h
  obtain ⟨mv, h⟩ := h
  have rr := rule5 h.blk
  obtain ⟨p0, ms, e0⟩ := s
  simp only at HN HX rr ⊢
  obtain ⟨NL, hNL⟩ : ∃ NL, bt l d rx (l.length + 1) p0 [] = NL := ⟨_, rfl⟩
  obtain ⟨nt, nq, nz⟩ := NL
  rw [hNL] at HN ⊢
  simp only at HN ⊢
  clear h hNL
  by_cases h0 : e0 = 0
  · subst h0
    rw [if_neg (by simp)]
    go_enter Tryz.func120, Tryz.ntmps120
    go_wp2_with fail
    refine HX.out.mono ?_
    rintro z w1 ⟨rfl, f1⟩
    go_wp2_with fail
    refine region_fr 17 (by kernel_rfl) (by kernel_rfl) ?_
    simp only [List.take_succ_cons, List.take_zero, List.drop_succ_cons, List.drop_zero]
    repeat (quiet_step (with_reducible exact calls_fr (HN.out _)))
    refine wpQuiet_nil ?_
    intro wC fC'
    have fC := f1.trans' fC'
    clear f1 fC'
    go_wp2_with fail
    refine (HM.out _ _ _ fC).mono ?_
    rintro z w2 ⟨rfl, h2, st2⟩
    clear rr
    go_wp2
    go_ret
    exact ⟨rfl, h2, (Stp.of fC).trans st2⟩
  · rw [if_pos h0]
    have e1 : (e0 == 0) = false := by simpa using h0
    rw [e1] at HX
    go_enter Tryz.func120, Tryz.ntmps120
    go_wp2_with fail
    refine HX.out.mono ?_
    rintro z w1 ⟨rfl, f1⟩
    clear rr
    go_wp2
    go_ret
    exact ⟨rfl, H.out.on f1, Stp.of f1⟩

set_option maxRecDepth 100000 in
set_option maxHeartbeats 1000000 in
theorem cm_delim (b : Nat) (l : List UInt8) (x : Bool) (s : AdS) (S : Nat → Prop) (w : World) (hl : l.length ≤ 99000) (ha : s.at_ ≤ l.length) (h : CRd b l x s S w) :
    Calls Tryz.prog 118 #[.pointer (some ⟨b, 0, none⟩)] w fun r w' => r = .returned (.int .u8 ((delimC l s).1.toNat : Int)) ∧ CRd b l x (delimC l s).2 S w' ∧ Stp S w S w' := by
  have HO := Lib.hid (cm_over b l x s S w (by omega) h)
  have HX := Lib.hid (fun w' (f : Fr nob w w') => cm_next b l x s S [92, 10] w' (by omega) (h.on f))
  have HFA := Lib.hid (fun (e : Int) (p : Nat) w' (f : Fr nob w w') => cm_fail b l x s S e p w' (h.on f))
  unfold delimC
  obtain ⟨q, hq⟩ : ∃ q, nextC l s [92, 10] = q := ⟨_, rfl⟩
  rw [hq] at HX ⊢
  obtain ⟨mv, h⟩ := h
  have rr := rule5 h.blk
  obtain ⟨p0, ms, e0⟩ := s
  have H := Lib.hid h
  simp only at HO HX HFA ha rr ⊢
  clear h hq
  by_cases hin : l.length ≤ p0
  · rw [if_pos hin]
    have hd : decide (l.length ≤ p0) = true := by simpa using hin
    rw [hd] at HO
    go_enter Tryz.func118, Tryz.ntmps118
    go_wp2_with fail
    refine HO.out.mono ?_
    rintro z w1 ⟨rfl, f1⟩
    go_wp2_with fail
    refine (HFA.out 5 l.length _ f1).mono ?_
    rintro z w2 ⟨rfl, h2, st2⟩
    clear rr
    go_wp2
    go_ret
    exact ⟨rfl, h2, (Stp.of f1).trans st2⟩
  · rw [if_neg hin]
    have hd : decide (l.length ≤ p0) = false := by simpa using hin
    rw [hd] at HO
    have hlt : p0 < l.length := by omega
    clear hin hd
    cases q with
    | true =>
      rw [if_pos rfl]
      go_enter Tryz.func118, Tryz.ntmps118
      go_wp2_with fail
      refine HO.out.mono ?_
      rintro z w1 ⟨rfl, f1⟩
      go_wp2_with fail
      refine (HX.out _ f1).mono ?_
      rintro z w2 ⟨rfl, f2'⟩
      have f2 := f1.trans' f2'
      clear f1 f2'
      go_wp2_with fail
      refine (HFA.out 2 p0 _ f2).mono ?_
      rintro z w3 ⟨rfl, h2, st2⟩
      clear rr
      go_wp2
      go_ret
      exact ⟨rfl, h2, (Stp.of f2).trans st2⟩
    | false =>
      rw [if_neg (by simp), byt_in hlt]
      go_enter Tryz.func118, Tryz.ntmps118
      go_wp2_with fail
      refine HO.out.mono ?_
      rintro z w1 ⟨rfl, f1⟩
      go_wp2_with fail
      refine (HX.out _ f1).mono ?_
      rintro z w2 ⟨rfl, f2'⟩
      have f2 := f1.trans' f2'
      clear f1 f2' rr
      have h2 := H.out.on f2
      have r2 := rule5 h2.blk _ (Fr.refl _ _)
      have h3 := h2.turned 1 (.int .i64 ((p0 : Int) + 1)) ⟨p0 + 1, ms, e0⟩ (by simp) rfl
      have st3 := (Stp.of f2).trans (h2.stp 1 (.int .i64 ((p0 : Int) + 1)))
      obtain ⟨w3, hw3⟩ : ∃ w3, w3 = w2.setCell ⟨b, 1, none⟩ (.int .i64 ((p0 : Int) + 1)) := ⟨_, rfl⟩
      rw [← hw3] at h3 st3
      have rr := rule5 h3.blk
      simp only at rr
      rw [show ((p0 + 1 : Nat) : Int) = (p0 : Int) + 1 by omega] at rr
      have H3 := Lib.hid h3; have ST3 := Lib.hid st3; have HW3 := Lib.hid hw3
      clear h2 h3 st3 hw3 f2
      go_wp2_with (rw [← HW3.out])
      clear r2
      refine region_fr 9 (by kernel_rfl) (by kernel_rfl) ?_
      simp only [List.take_succ_cons, List.take_zero, List.drop_succ_cons, List.drop_zero]
      repeat (quiet_step (fail))
      refine wpQuiet_nil ?_
      intro wC fC
      go_wp2
      go_ret
      exact ⟨rfl, ⟨mv, H3.out.on fC⟩, ST3.out.trans (Stp.of fC)⟩

theorem cm_blanks {l : List UInt8} {p : Nat} (hl : l.length ≤ 99000) (ha : p ≤ l.length) (w : World) : Calls Tryz.prog 94 #[.string ⟨l.toArray⟩, .int .i64 (p : Nat)] w fun e w' => e = .returned (.int .i64 (bhd l [32, 9] p : Nat)) ∧ Fr nob w w' := by
  have := blanks_any l (p : Int) w (by omega)
  rw [if_neg (by omega), Int.toNat_natCast] at this
  exact this
theorem endC_eq {l : List UInt8} {s : AdS} {q : Nat} (hq : bhd l [32, 9] s.at_ = q) : endC l s = if decide (l.length ≤ q) = true then s.to q else if nextC l (s.to q) [59, 10, 35] = true then s.to q else if nextC l (s.to q) [125] = true then markC (s.to q) q [125] else failC (s.to q) 17 q := by
  subst hq
  unfold endC
  simp only
  generalize hq : bhd l [32, 9] s.at_ = q
  have e : (s.to q).at_ = q := rfl
  rw [e]
  by_cases h1 : l.length ≤ q
  · rw [if_pos (.inl h1), if_pos (by simpa using h1)]
  · rw [if_neg (c := decide (l.length ≤ q) = true) (by simpa using h1)]
    by_cases h2 : nextC l (s.to q) [59, 10, 35] = true
    · rw [if_pos (.inr h2), if_pos h2]
    · rw [if_neg (by rintro (h | h); exact h1 h; exact h2 h), if_neg h2]
set_option maxRecDepth 100000 in
set_option maxHeartbeats 1000000 in
theorem cm_end (b : Nat) (l : List UInt8) (x : Bool) (s : AdS) (S : Nat → Prop) (w : World) (hl : l.length ≤ 99000) (ha : s.at_ ≤ l.length) (hm : s.marks.length ≤ 1000000) (h : CRd b l x s S w) :
    Calls Tryz.prog 59 #[.pointer (some ⟨b, 0, none⟩)] w fun r w' => r = .returned (.tuple #[]) ∧ CAft b l x S w (endC l s) w' := by
  have HB := Lib.hid (fun w' => cm_blanks (l := l) (p := s.at_) hl ha w')
  obtain ⟨q, hq⟩ : ∃ q, bhd l [32, 9] s.at_ = q := ⟨_, rfl⟩
  rw [endC_eq hq]
  rw [hq] at HB
  obtain ⟨p0, ms, e0⟩ := s
  obtain ⟨mv, h⟩ := h
  have rr := rule5 h.blk
  simp only [AdS.to] at HB ha rr hm ⊢
  have H := Lib.hid h
  clear h hq
  obtain ⟨c1, hc1⟩ : ∃ c1, decide (l.length ≤ q) = c1 := ⟨_, rfl⟩
  obtain ⟨c2, hc2⟩ : ∃ c2, nextC l ⟨q, ms, e0⟩ [59, 10, 35] = c2 := ⟨_, rfl⟩
  obtain ⟨c3, hc3⟩ : ∃ c3, nextC l ⟨q, ms, e0⟩ [125] = c3 := ⟨_, rfl⟩
  have HO := Lib.hid (fun w' h => by have := cm_over b l x ⟨q, ms, e0⟩ S w' (by omega) h; simp only at this; rw [hc1] at this; exact this)
  have HX := Lib.hid (fun w' h => by have := cm_next b l x ⟨q, ms, e0⟩ S [59, 10, 35] w' (by omega) h; rw [hc2] at this; exact this)
  have HY := Lib.hid (fun w' h => by have := cm_next b l x ⟨q, ms, e0⟩ S [125] w' (by omega) h; rw [hc3] at this; exact this)
  simp only [hc1, hc2, hc3]
  clear hc1 hc2 hc3
  go_enter Tryz.func59, Tryz.ntmps59
  go_wp2_with fail
  refine region_fr 10 (by kernel_rfl) (by kernel_rfl) ?_
  simp only [List.take_succ_cons, List.take_zero, List.drop_succ_cons, List.drop_zero]
  repeat (quiet_step (with_reducible exact calls_fr (HB.out _)))
  refine wpQuiet_nil ?_
  intro wC fC
  clear rr
  have h2 := H.out.on fC
  have r2 := rule5 h2.blk _ (Fr.refl _ _)
  have h3 := h2.turned 1 (.int .i64 (q : Nat)) ⟨q, ms, e0⟩ (by simp) rfl
  have st3 := (Stp.of fC).trans (h2.stp 1 (.int .i64 (q : Nat)))
  obtain ⟨w3, hw3⟩ : ∃ w3, w3 = wC.setCell ⟨b, 1, none⟩ (.int .i64 (q : Nat)) := ⟨_, rfl⟩
  rw [← hw3] at h3 st3
  have rr := rule5 h3.blk
  have H3 := Lib.hid (show CRd b l x ⟨q, ms, e0⟩ S w3 from ⟨mv, h3⟩); have ST3 := Lib.hid st3; have HW3 := Lib.hid hw3
  clear h2 h3 st3 hw3 fC
  go_wp2_with (rw [← HW3.out])
  clear r2
  refine (HO.out _ H3.out).mono ?_
  rintro z w4 ⟨rfl, f4⟩
  cases c1 with
  | true =>
    clear rr
    go_wp2
    go_end0
    exact ⟨rfl, S, H3.out.on f4, ST3.out.trans (Stp.of f4)⟩
  | false =>
    go_wp2_with fail
    refine (HX.out _ (H3.out.on f4)).mono ?_
    rintro z w5 ⟨rfl, f5'⟩
    have f5 := f4.trans' f5'
    clear f4 f5'
    cases c2 with
    | true =>
      clear rr
      go_wp2
      go_end0
      exact ⟨rfl, S, H3.out.on f5, ST3.out.trans (Stp.of f5)⟩
    | false =>
      go_wp2_with fail
      refine (HY.out _ (H3.out.on f5)).mono ?_
      rintro z w6 ⟨rfl, f6'⟩
      have f6 := f5.trans' f6'
      clear f5 f6'
      cases c3 with
      | true =>
        go_wp2_with fail
        refine (cm_mark b l x ⟨q, ms, e0⟩ S q [125] w6 hm (H3.out.on f6)).mono ?_
        rintro z w7 ⟨rfl, S', h7, st7⟩
        clear rr
        go_wp2
        go_end0
        exact ⟨rfl, S', h7, ST3.out.trans ((Stp.of f6).trans st7)⟩
      | false =>
        go_wp2_with fail
        refine (cm_fail b l x ⟨q, ms, e0⟩ S 17 q w6 (H3.out.on f6)).mono ?_
        rintro z w7 ⟨rfl, h7, st7⟩
        clear rr
        go_wp2
        go_end0
        exact ⟨rfl, S, h7, ST3.out.trans ((Stp.of f6).trans st7)⟩

set_option maxRecDepth 100000 in
set_option maxHeartbeats 2000000 in
theorem cm_lines (b : Nat) (l : List UInt8) (x : Bool) (g : Nat) (s : AdS) (S : Nat → Prop) (w : World) (hl : l.length ≤ 99000) (ha : s.at_ ≤ l.length) (hm : s.marks.length ≤ 1000000) (h : CRd b l x s S w) :
    Calls Tryz.prog 90 #[.pointer (some ⟨b, 0, none⟩), .int .i64 (g : Nat)] w fun r w' => r = .returned (.string ⟨(linesC l g s).1.toArray⟩) ∧ CAft b l x S w (linesC l g s).2 w' := by
  have HB := Lib.hid (fun w' => cm_blanks (l := l) (p := s.at_) hl ha w')
  have hbl := (bhd_in (l := l) [32, 9] ha).2
  unfold linesC
  simp only
  obtain ⟨p0, ms, e0⟩ := s
  obtain ⟨mv, h⟩ := h
  have rr := rule5 h.blk
  simp only [AdS.to] at HB ha rr hm hbl ⊢
  obtain ⟨q, hq⟩ : ∃ q, bhd l [32, 9] p0 = q := ⟨_, rfl⟩
  rw [hq] at HB hbl ⊢
  have H := Lib.hid h
  clear h hq
  have HFA := Lib.hid (fun (e : Int) w' h => cm_fail b l x ⟨q, ms, e0⟩ S e q w' h)
  have HLN := Lib.hid (fun (k : Nat) w' hk => lines_any l k w' (by omega) hk)
  obtain ⟨c2, hc2⟩ : ∃ c2, nextC l ⟨q, ms, e0⟩ [10] = c2 := ⟨_, rfl⟩
  obtain ⟨c3, hc3⟩ : ∃ c3, [92, 10].isPrefixOf (l.drop q) = c3 := ⟨_, rfl⟩
  have HX := Lib.hid (fun w' h => by have := cm_next b l x ⟨q, ms, e0⟩ S [10] w' (by omega) h; rw [hc2] at this; exact this)
  have HP := Lib.hid (fun w' => by have := strings_HasPrefix (l.drop q) [92, 10] w' (by rw [List.length_drop]; omega) (by decide); rw [hc3] at this; exact this)
  have HC3 := Lib.hid (fun (e : c3 = true) => show q + 2 ≤ l.length from by
    rw [e] at hc3
    have h2 := (List.isPrefixOf_iff_prefix.1 hc3).length_le
    simp only [List.length_drop, List.length_cons, List.length_nil] at h2
    omega)
  simp only [hc2, hc3]
  clear hc2 hc3
  by_cases hin : l.length ≤ q
  · rw [if_pos hin]
    have HO := Lib.hid (fun w' h => by have := cm_over b l x ⟨q, ms, e0⟩ S w' (by omega) h; simp only [show decide (l.length ≤ q) = true by simpa using hin] at this; exact this)
    go_enter Tryz.func90, Tryz.ntmps90
    go_wp2_with fail
    refine region_fr 10 (by kernel_rfl) (by kernel_rfl) ?_
    simp only [List.take_succ_cons, List.take_zero, List.drop_succ_cons, List.drop_zero]
    repeat (quiet_step (with_reducible exact calls_fr (HB.out _)))
    refine wpQuiet_nil ?_
    intro wC fC
    clear rr
    have h2 := H.out.on fC
    have r2 := rule5 h2.blk _ (Fr.refl _ _)
    have h3 := h2.turned 1 (.int .i64 (q : Nat)) ⟨q, ms, e0⟩ (by simp) rfl
    have st3 := (Stp.of fC).trans (h2.stp 1 (.int .i64 (q : Nat)))
    obtain ⟨w3, hw3⟩ : ∃ w3, w3 = wC.setCell ⟨b, 1, none⟩ (.int .i64 (q : Nat)) := ⟨_, rfl⟩
    rw [← hw3] at h3 st3
    have rr := rule5 h3.blk
    have H3 := Lib.hid (show CRd b l x ⟨q, ms, e0⟩ S w3 from ⟨mv, h3⟩); have H3' := Lib.hid h3; have ST3 := Lib.hid st3; have HW3 := Lib.hid hw3
    clear h2 h3 st3 hw3 fC
    go_wp2_with (rw [← HW3.out])
    clear r2
    refine (HO.out _ H3.out).mono ?_
    rintro z w4 ⟨rfl, f4⟩
    go_wp2_with fail
    refine (HFA.out 11 _ (H3.out.on f4)).mono ?_
    rintro z w5 ⟨rfl, h5, st5⟩
    clear rr
    go_wp2
    go_ret
    exact ⟨rfl, S, h5, ST3.out.trans ((Stp.of f4).trans st5)⟩
  · rw [if_neg hin]
    have HO := Lib.hid (fun w' h => by have := cm_over b l x ⟨q, ms, e0⟩ S w' (by omega) h; simp only [show decide (l.length ≤ q) = false by simpa using hin] at this; exact this)
    cases c2 with
    | true =>
      rw [if_pos rfl]
      go_enter Tryz.func90, Tryz.ntmps90
      go_wp2_with fail
      refine region_fr 10 (by kernel_rfl) (by kernel_rfl) ?_
      simp only [List.take_succ_cons, List.take_zero, List.drop_succ_cons, List.drop_zero]
      repeat (quiet_step (with_reducible exact calls_fr (HB.out _)))
      refine wpQuiet_nil ?_
      intro wC fC
      clear rr
      have h2 := H.out.on fC
      have r2 := rule5 h2.blk _ (Fr.refl _ _)
      have h3 := h2.turned 1 (.int .i64 (q : Nat)) ⟨q, ms, e0⟩ (by simp) rfl
      have st3 := (Stp.of fC).trans (h2.stp 1 (.int .i64 (q : Nat)))
      obtain ⟨w3, hw3⟩ : ∃ w3, w3 = wC.setCell ⟨b, 1, none⟩ (.int .i64 (q : Nat)) := ⟨_, rfl⟩
      rw [← hw3] at h3 st3
      have rr := rule5 h3.blk
      have H3 := Lib.hid (show CRd b l x ⟨q, ms, e0⟩ S w3 from ⟨mv, h3⟩); have H3' := Lib.hid h3; have ST3 := Lib.hid st3; have HW3 := Lib.hid hw3
      clear h2 h3 st3 hw3 fC
      go_wp2_with (rw [← HW3.out])
      clear r2
      refine (HO.out _ H3.out).mono ?_
      rintro z w4 ⟨rfl, f4⟩
      go_wp2_with fail
      refine (HX.out _ (H3.out.on f4)).mono ?_
      rintro z w5 ⟨rfl, f5'⟩
      have f5 := f4.trans' f5'
      clear f4 f5'
      go_wp2_with fail
      refine (HFA.out 5 _ (H3.out.on f5)).mono ?_
      rintro z w6 ⟨rfl, h6, st6⟩
      clear rr
      go_wp2
      go_ret
      exact ⟨rfl, S, h6, ST3.out.trans ((Stp.of f5).trans st6)⟩
    | false =>
      rw [if_neg (by simp)]
      have hlt : q < l.length := by omega
      have hle : (q : Int) ≤ l.length := by omega
      cases c3 with
      | true =>
        have hq2 := HC3.out rfl
        simp only [if_true]
        have HLN2 := fun w' => HLN.out (q + 2) w' hq2
        rw [show ((q + 2 : Nat) : Int) = (q : Int) + 2 by omega] at HLN2
        have HL2 := Lib.hid HLN2
        obtain ⟨NL, hNL⟩ : ∃ NL, ln l (l.length + 1) (q + 2) [] = NL := ⟨_, rfl⟩
        obtain ⟨nt, nq, nz⟩ := NL
        rw [hNL] at HL2 ⊢
        simp only at HL2 ⊢
        clear HLN2 hNL
        go_enter Tryz.func90, Tryz.ntmps90
        go_wp2_with fail
        refine region_fr 10 (by kernel_rfl) (by kernel_rfl) ?_
        simp only [List.take_succ_cons, List.take_zero, List.drop_succ_cons, List.drop_zero]
        repeat (quiet_step (with_reducible exact calls_fr (HB.out _)))
        refine wpQuiet_nil ?_
        intro wC fC
        clear rr
        have h2 := H.out.on fC
        have r2 := rule5 h2.blk _ (Fr.refl _ _)
        have h3 := h2.turned 1 (.int .i64 (q : Nat)) ⟨q, ms, e0⟩ (by simp) rfl
        have st3 := (Stp.of fC).trans (h2.stp 1 (.int .i64 (q : Nat)))
        obtain ⟨w3, hw3⟩ : ∃ w3, w3 = wC.setCell ⟨b, 1, none⟩ (.int .i64 (q : Nat)) := ⟨_, rfl⟩
        rw [← hw3] at h3 st3
        have rr := rule5 h3.blk
        have H3 := Lib.hid (show CRd b l x ⟨q, ms, e0⟩ S w3 from ⟨mv, h3⟩); have H3' := Lib.hid h3; have ST3 := Lib.hid st3; have HW3 := Lib.hid hw3
        clear h2 h3 st3 hw3 fC
        go_wp2_with (rw [← HW3.out])
        clear r2
        refine (HO.out _ H3.out).mono ?_
        rintro z w4 ⟨rfl, f4⟩
        go_wp2_with fail
        refine (HX.out _ (H3.out.on f4)).mono ?_
        rintro z w5 ⟨rfl, f5'⟩
        have f5 := f4.trans' f5'
        clear f4 f5'
        go_wp2_with fail
        refine region_fr 8 (by kernel_rfl) (by kernel_rfl) ?_
        simp only [List.take_succ_cons, List.take_zero, List.drop_succ_cons, List.drop_zero]
        repeat (quiet_step (fail))
        refine wpQuiet_nil ?_
        intro wD fD'
        have fD := f5.trans' fD'
        clear f5 fD'
        go_wp2_with (refine (HP.out _).mono ?_; rintro z wE ⟨rfl, rfl⟩)
        have h6 := H3'.out.on fD
        have r6 := rule5 h6.blk _ (Fr.refl _ _)
        have h7 := h6.turned 1 (.int .i64 ((q : Int) + 2)) ⟨q + 2, ms, e0⟩ (by simp) rfl
        have st7 := ST3.out.trans ((Stp.of fD).trans (h6.stp 1 (.int .i64 ((q : Int) + 2))))
        obtain ⟨w7, hw7⟩ : ∃ w7, w7 = wD.setCell ⟨b, 1, none⟩ (.int .i64 ((q : Int) + 2)) := ⟨_, rfl⟩
        rw [← hw7] at h7 st7
        have r7 := rule5 h7.blk
        simp only at r7
        rw [show ((q + 2 : Nat) : Int) = (q : Int) + 2 by omega] at r7
        have H7 := Lib.hid (show CRd b l x ⟨q + 2, ms, e0⟩ S w7 from ⟨mv, h7⟩); have ST7 := Lib.hid st7; have HW7 := Lib.hid hw7
        clear h6 h7 st7 hw7 fD rr
        go_wp2_with (rw [← HW7.out])
        clear r6
        refine region_fr 15 (by kernel_rfl) (by kernel_rfl) ?_
        simp only [List.take_succ_cons, List.take_zero, List.drop_succ_cons, List.drop_zero]
        repeat (quiet_step (with_reducible exact calls_fr (HL2.out _)))
        refine wpQuiet_nil ?_
        intro wC fC
        go_wp2_with fail
        refine (cm_moved b l x ⟨q + 2, ms, e0⟩ S nz nq wC (H7.out.on fC)).mono ?_
        rintro z w8 ⟨rfl, h8, st8⟩
        clear r7
        go_wp2
        go_ret
        exact ⟨rfl, S, h8, ST7.out.trans ((Stp.of fC).trans st8)⟩
      | false =>
        simp only [Bool.false_eq_true, if_false, markC]
        have HL2 := Lib.hid (fun w' => HLN.out q w' (by omega))
        obtain ⟨NL, hNL⟩ : ∃ NL, ln l (l.length + 1) q [] = NL := ⟨_, rfl⟩
        obtain ⟨nt, nq, nz⟩ := NL
        rw [hNL] at HL2 ⊢
        simp only at HL2 ⊢
        clear hNL
        go_enter Tryz.func90, Tryz.ntmps90
        go_wp2_with fail
        refine region_fr 10 (by kernel_rfl) (by kernel_rfl) ?_
        simp only [List.take_succ_cons, List.take_zero, List.drop_succ_cons, List.drop_zero]
        repeat (quiet_step (with_reducible exact calls_fr (HB.out _)))
        refine wpQuiet_nil ?_
        intro wC fC
        clear rr
        have h2 := H.out.on fC
        have r2 := rule5 h2.blk _ (Fr.refl _ _)
        have h3 := h2.turned 1 (.int .i64 (q : Nat)) ⟨q, ms, e0⟩ (by simp) rfl
        have st3 := (Stp.of fC).trans (h2.stp 1 (.int .i64 (q : Nat)))
        obtain ⟨w3, hw3⟩ : ∃ w3, w3 = wC.setCell ⟨b, 1, none⟩ (.int .i64 (q : Nat)) := ⟨_, rfl⟩
        rw [← hw3] at h3 st3
        have rr := rule5 h3.blk
        have H3 := Lib.hid (show CRd b l x ⟨q, ms, e0⟩ S w3 from ⟨mv, h3⟩); have H3' := Lib.hid h3; have ST3 := Lib.hid st3; have HW3 := Lib.hid hw3
        clear h2 h3 st3 hw3 fC
        go_wp2_with (rw [← HW3.out])
        clear r2
        refine (HO.out _ H3.out).mono ?_
        rintro z w4 ⟨rfl, f4⟩
        go_wp2_with fail
        refine (HX.out _ (H3.out.on f4)).mono ?_
        rintro z w5 ⟨rfl, f5'⟩
        have f5 := f4.trans' f5'
        clear f4 f5'
        go_wp2_with fail
        refine region_fr 8 (by kernel_rfl) (by kernel_rfl) ?_
        simp only [List.take_succ_cons, List.take_zero, List.drop_succ_cons, List.drop_zero]
        repeat (quiet_step (fail))
        refine wpQuiet_nil ?_
        intro wD fD'
        have fD := f5.trans' fD'
        clear f5 fD'
        go_wp2_with (refine (HP.out _).mono ?_; rintro z wE ⟨rfl, rfl⟩)
        go_wp2_with fail
        refine (cm_mark b l x ⟨q, ms, e0⟩ S g [116, 101, 120, 116] wD hm (H3.out.on fD)).mono ?_
        rintro z w7 ⟨rfl, S', ⟨mv7, h7⟩, st7⟩
        have r7 := rule5 h7.blk
        simp only [markC] at r7
        have H7 := Lib.hid (show CRd b l x ⟨q, ms ++ [(g, [116, 101, 120, 116])], e0⟩ S' w7 from ⟨mv7, h7⟩); have ST7 := Lib.hid (ST3.out.trans ((Stp.of fD).trans st7))
        clear h7 st7 fD rr
        go_wp2_with fail
        refine region_fr 15 (by kernel_rfl) (by kernel_rfl) ?_
        simp only [List.take_succ_cons, List.take_zero, List.drop_succ_cons, List.drop_zero]
        repeat (quiet_step (with_reducible exact calls_fr (HL2.out _)))
        refine wpQuiet_nil ?_
        intro wC fC
        go_wp2_with fail
        refine (cm_moved b l x ⟨q, ms ++ [(g, [116, 101, 120, 116])], e0⟩ S' nz nq wC (H7.out.on fC)).mono ?_
        rintro z w8 ⟨rfl, h8, st8⟩
        clear r7
        go_wp2
        go_ret
        exact ⟨rfl, S', h8, ST7.out.trans ((Stp.of fC).trans st8)⟩
end Go.Proofs.YtkfddjopbocpkaaGreatDoor

/-
  Walks of package cmd: a builder of parts; parts; list.
-/
namespace Go.Proofs.YtkfddjopbocpkaaGreatDoor
open Go.RowKit

def pC (l : List Prt) : List Value := l.flatMap fun m => [.int .i64 m.1, .string ⟨m.2.toArray⟩]
theorem pC_length (l : List Prt) : (pC l).length = 2 * l.length := by
  induction l with
  | nil => rfl
  | cons m r ih =>
    have e : pC (m :: r) = .int .i64 m.1 :: .string ⟨m.2.toArray⟩ :: pC r := rfl
    rw [e, List.length_cons, List.length_cons, ih, List.length_cons]; omega
theorem pC_append (l : List Prt) (k : Int) (t : List UInt8) : pC (l ++ [(k, t)]) = pC l ++ [.int .i64 k, .string ⟨t.toArray⟩] := by simp [pC]
theorem pC_one {k : Int} {t : List UInt8} : ∀ u ∈ ([.int .i64 k, .string ⟨t.toArray⟩] : List Value), u.oneCell' = true := by
  intro u hu
  simp only [List.mem_cons, List.not_mem_nil, or_false] at hu
  rcases hu with rfl | rfl <;> rfl
theorem pC_news {w : World} {g : Nat} {k : Int} {t : List UInt8} {T : TypeId} {fr : Nat × Nat} (h : w.heap[g]? = some (.cells #[.int .i64 k, .string ⟨t.toArray⟩] T fr)) :
    ∀ j u, ([.int .i64 k, .string ⟨t.toArray⟩] : List Value)[j]? = some u → w.cell? ((⟨g, 0, none⟩ : Addr).add j) = some u := by
  intro j u hj
  match j, hj with
  | 0, hj => simp at hj; subst hj; exact cell_at h rfl
  | 1, hj => simp at hj; subst hj; exact cell_at (j := 1) h rfl
theorem info_part : (Tryz.prog.info? 43).map (fun i => (i.zero, i.size, i.bytes)) = some (some (.agg #[.int .i64 0, .string ByteArray.empty]), 2, 24) := by kernel_rfl
def OwP (w : World) (l : List Prt) (v : Value) : Prop := w.ownsRow 0 43 2 v l.length (pC l)
def Bdr (B b : Nat) (l : List Prt) (w : World) : Prop := ∃ v, w.heap[b]? = some (.cells #[v] 238 (0, 0)) ∧ OwP w l v ∧ B ≤ b ∧ ∀ k, v.ownBlock = some k → k ≠ b ∧ B ≤ k
def Abv (B : Nat) : Nat → Prop := fun k => B ≤ k
theorem ownsRow_set {w : World} {base g cap n size j : Nat} {e : TypeId} {xs : List Value} (h : w.ownsRow base e size (.slice (some ⟨g, 0, none⟩) n cap) n xs) (u : Value) (hj : j < xs.length) : (w.setCell ⟨g, j, none⟩ u).ownsRow base e size (.slice (some ⟨g, 0, none⟩) n cap) n (xs.set j u) := by
  refine ⟨by rw [List.length_set]; exact h.1, .inr ?_⟩
  rcases h.2 with ⟨e1, hn⟩ | ⟨g', cap', cur, e1, hb, hg, hnc, hcm, hcs, htake⟩
  · cases e1
  · injection e1 with e1 e2 e3
    injection e1 with e1; injection e1 with e1
    subst e1; subst e3
    refine ⟨g, cap, cur.setIfInBounds j u, rfl, hb, heap_setCell_at hg j u, hnc, hcm, by simpa using hcs, ?_⟩
    rw [Array.toList_setIfInBounds, List.take_set, htake]
theorem Fr.weak {S T : Nat → Prop} {w w' : World} (h : Fr S w w') (hs : ∀ k, S k → T k) : Fr T w w' := h.mono fun k _ x => hs k x

section
variable {B b : Nat} {l : List Prt} {w W0 w3 : World} {v v' : Value}
theorem bd_push (hb : w.heap[b]? = some (.cells #[v] 238 (0, 0))) (hB : B ≤ b) (hBw : B ≤ w.heap.size) (hn : ∀ k, v.ownBlock = some k → k ≠ b ∧ B ≤ k) (f : Fr nob w W0) (hap : Appd 1 v v' W0 w3) {k : Int} {t : List UInt8}
    (hown : w3.ownsRow 0 43 2 v' (l.length + 1) (pC l ++ [.int .i64 k, .string ⟨t.toArray⟩])) :
    (w3.cell? ⟨b, 0, none⟩ = some v ∧ w3.frozen? ⟨b, 0, none⟩ = false) ∧ Bdr B b (l ++ [(k, t)]) (w3.setCell ⟨b, 0, none⟩ v') ∧ Fr (Abv B) w (w3.setCell ⟨b, 0, none⟩ v') := by
  have h0 := f.heap hb (fun x => x)
  have hblk := hap.fr.heap h0 (fun e => (hn b e).1 rfl)
  have hlt := lt_heap hb
  have hsz := f.size
  have hst := (Fr.refl (fun k => k = b) w3).setCell (p := ⟨b, 0, none⟩) (fun _ => rfl) v'
  have hnb : ∀ k, v'.ownBlock = some k → k ≠ b ∧ B ≤ k := fun k hk => by
    rcases hap.old k hk with h1 | h1
    · exact hn k h1
    · omega
  refine ⟨⟨cell_at hblk rfl, unfrozen_at hblk 0⟩, ⟨v', by have := heap_setCell_at hblk 0 v'; simpa using this, ?_, hB, hnb⟩, ?_⟩
  · have := ownsRow_fr hown hst (fun k hk e => (hnb k hk).1 e)
    unfold OwP
    simp only [List.length_append, List.length_singleton, pC_append]
    exact this
  · exact (f.any.trans (hap.fr.mono (T := Abv B) fun k _ hk => (hn k hk).2) (fun _ _ x => x)).setCell (p := ⟨b, 0, none⟩) (fun _ => hB) v'
end
theorem pushT_nil (t : List UInt8) : pushT [] t = [(-1, t)] := rfl
theorem pushT_text (q : List Prt) (a t : List UInt8) : pushT (q ++ [(-1, a)]) t = q ++ [(-1, a ++ t)] := by
  unfold pushT
  rw [List.getLast?_concat]
  simp only [if_true, List.dropLast_concat]
theorem pushT_other (q : List Prt) (k : Int) (a t : List UInt8) (hk : k ≠ -1) : pushT (q ++ [(k, a)]) t = q ++ [(k, a)] ++ [(-1, t)] := by
  unfold pushT
  rw [List.getLast?_concat]
  simp only [if_neg hk]
theorem pC_last (q : List Prt) (k : Int) (a : List UInt8) : (pC (q ++ [(k, a)]))[q.length * 2]? = some (.int .i64 k) ∧ (pC (q ++ [(k, a)]))[q.length * 2 + 1]? = some (.string ⟨a.toArray⟩) := by
  rw [pC_append]
  have := pC_length q
  constructor
  · rw [List.getElem?_append_right (by omega), show q.length * 2 - (pC q).length = 0 by omega]; rfl
  · rw [List.getElem?_append_right (by omega), show q.length * 2 + 1 - (pC q).length = 1 by omega]; rfl
theorem set_behind {α : Type} (a : List α) (k j : Nat) (h : k = a.length + j) (b : List α) (x : α) : (a ++ b).set k x = a ++ b.set j x := by
  subst h
  induction a with
  | nil => simp
  | cons y a ih => rw [List.cons_append, List.length_cons, show a.length + 1 + j = (a.length + j) + 1 by omega, List.set_cons_succ, ih, List.cons_append]
theorem pC_setlast (q : List Prt) (k : Int) (a t : List UInt8) : (pC (q ++ [(k, a)])).set (q.length * 2 + 1) (.string ⟨t.toArray⟩) = pC (q ++ [(k, t)]) := by
  rw [pC_append, pC_append, set_behind (pC q) _ 1 (by rw [pC_length]; omega)]
  rfl

set_option maxRecDepth 100000 in
set_option maxHeartbeats 2000000 in
theorem bd_text (B b : Nat) (l : List Prt) (t : List UInt8) (w : World) (hl : l.length ≤ 100000) (ht : t.length ≤ 100000) (hlt : ∀ p ∈ l, p.2.length ≤ 100000) (hBw : B ≤ w.heap.size) (h : Bdr B b l w) :
    Calls Tryz.prog 155 #[.pointer (some ⟨b, 0, none⟩), .string ⟨t.toArray⟩] w fun r w' => r = .returned (.tuple #[]) ∧ Bdr B b (pushT l t) w' ∧ Fr (Abv B) w w' := by
  obtain ⟨v, hb, ho, hB, hn⟩ := h
  obtain ⟨av, cv, rfl⟩ := ownsRow_slice ho
  obtain ⟨i0, hi, hz0, hz1, hz2⟩ := info_parts info_part
  have HB := Lib.hid hb; have HO := Lib.hid ho; have HN := Lib.hid hn
  have rb := cellRule (cell_at (j := 0) hb rfl)
  rcases (by rcases List.eq_nil_or_concat l with h | ⟨q, p, h⟩; exact .inl h; exact .inr ⟨q, p.1, p.2, by rw [h, List.concat_eq_append]⟩ : l = [] ∨ ∃ (q : List Prt) (k : Int) (a : List UInt8), l = q ++ [(k, a)]) with rfl | ⟨q, k, a, rfl⟩
  · rw [pushT_nil]
    clear hb ho hn
    go_enter Tryz.func155, Tryz.ntmps155
    go_wp2_with (at_builtin; refine wpList_append_g rfl _ _ 238 rfl 43 i0 (.agg #[.int .i64 0, .string ByteArray.empty]) 2 24 Tryz.underlying238 hi hz0 hz1 hz2 rfl (by decide) _ _ _ rfl (ownsRow_fr HO.out ((Fr.refl nob w).alloc _) (fun _ _ x => x)) ⟨w.heap.size, 0, none⟩ 1 1 [.int .i64 (-1), .string ⟨t.toArray⟩] rfl rfl ?c1 ?c2 ?c3 ?c4 ?_)
    case c1 => exact pC_news (newAt0 w _)
    case c2 => exact pC_one
    case c3 => unfold maxLen; show 0 + 1 ≤ _; omega
    case c4 => show (0 + 1) * 24 ≤ _; omega
    intro v' w4 hown' hap
    obtain ⟨av', cv', rfl⟩ := ownsRow_slice hown'
    obtain ⟨⟨pc, pf⟩, h5, f5⟩ := bd_push (l := []) HB.out hB hBw HN.out ((Fr.refl nob w).alloc _) hap (k := -1) (t := t) hown'
    have H5 := Lib.hid h5; have F5 := Lib.hid f5
    clear hown' hap h5 f5 rb
    go_wp2
    go_end0
    exact ⟨rfl, H5.out, F5.out⟩
  · have hkl : (q ++ [(k, a)]).length = q.length + 1 := by simp
    have hql : q.length ≤ 100000 := by rw [hkl] at hl; omega
    have hal : a.length ≤ 100000 := hlt (k, a) (by simp)
    obtain ⟨g, cap, hs, hgl, hc0, hc1⟩ : ∃ g cap, Value.slice av (q ++ [(k, a)]).length cv = .slice (some ⟨g, 0, none⟩) (q.length + 1) cap ∧ g < w.heap.size ∧ w.cell? ⟨g, q.length * 2, none⟩ = some (.int .i64 k) ∧ w.cell? ⟨g, q.length * 2 + 1, none⟩ = some (.string ⟨a.toArray⟩) := by
      have hp := pC_last q k a
      have hpl := pC_length (q ++ [(k, a)])
      rcases ho.2 with ⟨e, hn⟩ | ⟨r, cap, cur, e, _, hr, _⟩
      · rw [hkl] at hn; omega
      · have h2 := ho
        injection e with e1 e2 e3
        subst e1; subst e3
        refine ⟨r, cv, by rw [hkl], lt_heap hr, (World.ownsRow.cellAt ho (q.length * 2) (by first | (rw [hpl, hkl]; omega) | (rw [hkl]; omega))).trans hp.1, (World.ownsRow.cellAt ho (q.length * 2 + 1) (by first | (rw [hpl, hkl]; omega) | (rw [hkl]; omega))).trans hp.2⟩
    rw [hkl] at hs HB HN rb
    injection hs with hs1 hs2 hs3
    subst hs1; subst hs3
    by_cases hk : k = -1
    · subst hk
      rw [pushT_text]
      have hset := ownsRow_set (j := q.length * 2 + 1) (by rw [hkl] at ho; unfold OwP at ho; rw [hkl] at ho; exact ho) (.string ⟨(a ++ t).toArray⟩) (by rw [pC_length, hkl]; omega)
      rw [pC_setlast] at hset
      have HSET := Lib.hid hset
      have hfro : w.frozen? ⟨g, q.length * 2 + 1, none⟩ = false := by
        rcases ho.2 with ⟨e, hn⟩ | ⟨r, cap, cur, e, _, hr, _⟩
        · rw [hkl] at hn; omega
        · injection e with e1 e2 e3
          injection e1 with e1; injection e1 with e1
          subst e1
          exact unfrozen_at hr _
      clear hb ho hn hset hlt
      go_enter Tryz.func155, Tryz.ntmps155
      have hgb := HN.out g rfl
      have hfin : Bdr B b (q ++ [(-1, a ++ t)]) (w.setCell ⟨g, q.length * 2 + 1, none⟩ (.string ⟨(a ++ t).toArray⟩)) := by
        refine ⟨_, heap_setCell_ne (p := ⟨g, q.length * 2 + 1, none⟩) HB.out (fun e => hgb.1 e.symm) _, ?_, hB, HN.out⟩
        have h := HSET.out
        unfold OwP
        rw [show (q ++ [((-1 : Int), a ++ t)]).length = q.length + 1 by simp]
        exact h
      have hfr : Fr (Abv B) w (w.setCell ⟨g, q.length * 2 + 1, none⟩ (.string ⟨(a ++ t).toArray⟩)) := (Fr.refl _ w).setCell (p := ⟨g, q.length * 2 + 1, none⟩) (fun _ => hgb.2) _
      have H5 := Lib.hid hfin; have F5 := Lib.hid hfr
      clear hgb hfin hfr hkl
      go_wp2
      refine bodyPost_ret (v := .tuple #[]) (by simp [results, Tryz.results155, go_sem]) rfl ?_
      exact ⟨rfl, H5.out, F5.out⟩
    · have hk1 : (k == -1) = false := by simpa using hk
      rw [pushT_other q k a t hk]
      have HO2 := Lib.hid (show w.ownsRow 0 43 2 (.slice (some ⟨g, 0, none⟩) (q.length + 1) cv) (q.length + 1) (pC (q ++ [(k, a)])) by unfold OwP at ho; rw [hkl] at ho; exact ho)
      clear hb ho hn
      go_enter Tryz.func155, Tryz.ntmps155
      go_wp2_with (at_builtin; refine wpList_append_g rfl _ _ 238 rfl 43 i0 (.agg #[.int .i64 0, .string ByteArray.empty]) 2 24 Tryz.underlying238 hi hz0 hz1 hz2 rfl (by decide) _ _ _ rfl (ownsRow_fr (show w.ownsRow 0 43 2 _ (q.length + 1) (pC (q ++ [(k, a)])) from HO2.out) ((Fr.refl nob w).alloc _) (fun _ _ x => x)) ⟨w.heap.size, 0, none⟩ 1 1 [.int .i64 (-1), .string ⟨t.toArray⟩] rfl rfl (pC_news (newAt0 w _)) (pC_one (k := -1) (t := t)) ?d3 ?d4 ?_)
      case d3 => unfold maxLen; omega
      case d4 => omega
      intro v' w4 hown' hap
      obtain ⟨av', cv', rfl⟩ := ownsRow_slice hown'
      obtain ⟨⟨pc, pf⟩, h5, f5⟩ := bd_push (l := q ++ [(k, a)]) HB.out hB hBw HN.out ((Fr.refl nob w).alloc _) hap (k := -1) (t := t) (by rw [hkl]; exact hown')
      have H5 := Lib.hid h5; have F5 := Lib.hid f5
      clear hown' hap h5 f5 rb
      go_wp2
      go_end0
      exact ⟨rfl, H5.out, F5.out⟩
end Go.Proofs.YtkfddjopbocpkaaGreatDoor
