/-
  BreBounds: an interval is read as its bounds, if they may be; else it is told where it begins. For every input; the tables of the library lie as start-up lays them (tied).
-/
import Derived.Test.YtpcpmjaphjkphaaDoorCards
import Derived.Test.YtpcpmjaphjkphaaDoorTie
import Derived.Test.YtpcpmjaphjkphaaDoorM11
import Derived.Test.YtpcpmjaphjkphaaDoorM20
import Derived.Test.YtpcpmjaphjkphaaDoorM21
import Derived.Test.YtpcpmjaphjkphaaDoorM22
import Derived.Test.YtpcpmjaphjkphaaDoorM23

namespace Go.Proofs.YtpcpmjaphjkphaaDoor
open Go.RowKit

theorem nat_of_u16 {x : Int} (h : (Lit.int .u16 x).wf = true) : ∃ n : Nat, (n : Int) = x ∧ n < 65536 := by
  simp [Lit.wf, IntKind.min, IntKind.max, IntKind.signed, IntKind.bits] at h
  exact ⟨x.toNat, by omega, by omega⟩
theorem nat_of_u8 {x : Int} (h : (Lit.int .u8 x).wf = true) : ∃ n : Nat, (n : Int) = x ∧ n < 256 := by
  simp [Lit.wf, IntKind.min, IntKind.max, IntKind.signed, IntKind.bits] at h
  exact ⟨x.toNat, by omega, by omega⟩

set_option maxRecDepth 100000 in
set_option maxHeartbeats 2000000 in
theorem lawBreBounds (m n how : Nat) (w : World) (hm : m < 65536) (hn : n < 65536) (hh : how < 256) (hE : Env w) :
    Calls Tryd.prog 3 #[.int .u16 m, .int .u16 n, .int .u8 how] w fun e w' => e = .returned (.bool true) ∧ Fr nob w w' := by
  have HE := Lib.hid hE; clear hE
  have HA1 := Lib.hid (awake4_any w HE.out)
  have hr : (how : Int).tmod 3 = ((how % 3 : Nat) : Int) := by rw [Int.tmod_eq_emod_of_nonneg (by omega)]; rfl
  have hlm := dg_len (n := m) (by omega)
  have hln := dg_len (n := n) (by omega)
  have w1 : IntKind.i64.wrap (m : Int) = m := IntWalk.i64_in _ (by omega)
  have w2 : IntKind.i64.wrap (n : Int) = n := IntWalk.i64_in _ (by omega)
  have hmI : (m : Int) < 65536 := by omega
  have hnI : (n : Int) < 65536 := by omega
  obtain ⟨r, hr2⟩ : ∃ r, how % 3 = r := ⟨_, rfl⟩
  rw [hr2] at hr
  have hr3 : r = 0 ∨ r = 1 ∨ r = 2 := by omega
  have hbp := bnd_parse m n r hm hn
  have hP := fun w' (f : Fr nob w w') => bre_parse (bndL m n r) w' (by have := (bndL_len (how := r) hm hn).1; omega) (HE.out.on f)
  rw [hbp] at hP
  have HP := Lib.hid hP
  have HD := Lib.hid (fun (k : Nat) (w' : World) (h : k < 100000) => digits_any k k w' (Nat.le_refl _) h)
  clear hbp hP hr2
  rcases hr3 with rfl | rfl | rfl
  · go_enter Tryd.func3, Tryd.ntmps3
    go_wp2_with fail
    refine HA1.out.mono ?_
    rintro e wa ⟨rfl, fa⟩
    have FA := Lib.hid fa; clear fa
    go_wp2_with fail
    refine (HD.out m wa (by omega)).mono ?_
    rintro e wb ⟨rfl, rfl⟩
    have hp := HP.out wa FA.out
    rw [show mxT m n 0 = (m : Int) from rfl] at hp
    by_cases hb0 : 255 < m
    · rw [if_pos (by omega)] at hp
      have q0 : (255 : Int) < (m : Int) := by omega
      have q8 : (0 : Int) ≤ (m : Int) := by omega
      have HPP := Lib.hid hp
      clear hp HP
      go_wp2_with fail
      rw [show 97 :: 92 :: 123 :: (dg m ++ [92, 125]) = bndL m n 0 from rfl]
      refine HPP.out.mono ?_
      rintro e w2 ⟨f2, rfl⟩
      have F2 := Lib.hid (FA.out.trans' f2); clear f2
      go_wp2
      go_ret
      exact ⟨rfl, F2.out⟩
    rw [if_neg (by omega)] at hp
    have q0 : ¬ (255 : Int) < (m : Int) := by omega
    have q8 : (0 : Int) ≤ (m : Int) := by omega
    obtain ⟨s1, hs1⟩ : ∃ s1 : RxS, s1 = ⟨(bndL m n 0).length, 0, [], []⟩ := ⟨_, rfl⟩
    have hmk : s1.marks = [] := by rw [hs1]
    rw [← hs1] at hp
    have HPP := Lib.hid hp
    clear hp HP hs1
    go_wp2_with fail
    rw [show 97 :: 92 :: 123 :: (dg m ++ [92, 125]) = bndL m n 0 from rfl]
    refine HPP.out.mono ?_
    rintro e w2 ⟨f2, i, y, mv, rfl, rn, ma⟩
    rw [hmk] at ma
    obtain ⟨am, cm, hma⟩ := ownsRow_slice ma
    subst hma
    rw [RN] at rn
    obtain ⟨u, hu, rn1⟩ := rn
    rw [RN] at rn1
    injection hu with hi hy
    subst hi; subst hy; subst rn1
    have F2 := Lib.hid (FA.out.trans' f2)
    have hb0 := newAt0 w2 (.cells #[.iface 75 (.agg (spn 97 97).cells.toArray), .int .i64 m, .int .i64 (m : Int)] 32)
    obtain ⟨c, hc⟩ : ∃ c, spn 97 97 = c := ⟨_, rfl⟩
    have hsame : Nd.isOne c (.one c) = true := S4.same_refl c
    have hho := fun w' => of_one 97 w' 5
    rw [show (UInt8.toNat 97) = 97 from rfl, hc] at hho
    rw [hc] at hb0
    rw [S4.cells_eq] at hb0
    have hhh := fun w' => holds_any (.one c) c (.iface 75 (.agg c.cells.toArray)) w' (by rw [RN])
    rw [hsame, S4.cells_eq] at hhh
    rw [hc, S4.cells_eq]
    obtain ⟨w3, hw3⟩ : ∃ w3, w3 = w2.alloc (.cells #[.iface 75 (.agg #[.int .u64 c.a, .int .u64 c.b, .int .u64 c.c, .int .u64 c.d]), .int .i64 m, .int .i64 (m : Int)] 32) := ⟨_, rfl⟩
    rw [← hw3] at hb0
    have h3 := C3.of hb0
    have k0 := h3.1; have k1 := h3.2.1; have k2 := h3.2.2
    have H3 := Lib.hid h3; have HW3 := Lib.hid hw3; have HHO := Lib.hid hho; have HHH := Lib.hid hhh
    have F3 := Lib.hid (show Fr nob w w3 by rw [hw3]; exact F2.out.alloc _)
    clear f2 ma hb0 hc hsame h3 hw3 hho hhh hmI hnI
    go_wp2_with (rw [← HW3.out])
    go_region_held3 (fun w' => C3 w' w2.heap.size (.iface 75 (.agg #[.int .u64 c.a, .int .u64 c.b, .int .u64 c.c, .int .u64 c.d])) (.int .i64 m) (.int .i64 (m : Int))) (first | (with_reducible exact H3.out) | (with_reducible exact H3.out.on ((Fr.refl nob w3).drew)) | (with_reducible exact H3.out.on (((Fr.refl nob w3).drew).alloc _)) | (with_reducible exact H3.out.on (((Fr.refl nob w3).alloc _).drew)) | (with_reducible exact H3.out.on G1) | (with_reducible exact H3.out.on G2) | (trace_state; fail)) (first | (go_at_call 11; (refine (HHO.out (World.drew w3)).mono ?_); rintro e g1 ⟨rfl, f1⟩; have G1 : Fr nob w3 g1 := (((Fr.refl nob w3).drew).alloc _).trans' f1; clear f1) | (go_at_call 10; (with_reducible refine (HHH.out _).mono ?_); rintro e g2 ⟨rfl, f2⟩; have G2 : Fr nob w3 g2 := G1.trans' f2; clear f2))
    all_goals
      go_wp2
      go_ret
      exact ⟨rfl, F3.out.trans' G2⟩
  · go_enter Tryd.func3, Tryd.ntmps3
    go_wp2_with fail
    refine HA1.out.mono ?_
    rintro e wa ⟨rfl, fa⟩
    have FA := Lib.hid fa; clear fa
    go_wp2_with fail
    refine (HD.out m wa (by omega)).mono ?_
    rintro e wb ⟨rfl, rfl⟩
    have hp := HP.out wa FA.out
    rw [show mxT m n 1 = (-1) from rfl] at hp
    by_cases hb0 : 255 < m
    · rw [if_pos (by omega)] at hp
      have q0 : (255 : Int) < (m : Int) := by omega
      have HPP := Lib.hid hp
      clear hp HP
      go_wp2_with fail
      rw [show 97 :: 92 :: 123 :: (dg m ++ [44, 92, 125]) = bndL m n 1 from rfl]
      refine HPP.out.mono ?_
      rintro e w2 ⟨f2, rfl⟩
      have F2 := Lib.hid (FA.out.trans' f2); clear f2
      go_wp2
      go_ret
      exact ⟨rfl, F2.out⟩
    rw [if_neg (by omega)] at hp
    have q0 : ¬ (255 : Int) < (m : Int) := by omega
    obtain ⟨s1, hs1⟩ : ∃ s1 : RxS, s1 = ⟨(bndL m n 1).length, 0, [], []⟩ := ⟨_, rfl⟩
    have hmk : s1.marks = [] := by rw [hs1]
    rw [← hs1] at hp
    have HPP := Lib.hid hp
    clear hp HP hs1
    go_wp2_with fail
    rw [show 97 :: 92 :: 123 :: (dg m ++ [44, 92, 125]) = bndL m n 1 from rfl]
    refine HPP.out.mono ?_
    rintro e w2 ⟨f2, i, y, mv, rfl, rn, ma⟩
    rw [hmk] at ma
    obtain ⟨am, cm, hma⟩ := ownsRow_slice ma
    subst hma
    rw [RN] at rn
    obtain ⟨u, hu, rn1⟩ := rn
    rw [RN] at rn1
    injection hu with hi hy
    subst hi; subst hy; subst rn1
    have F2 := Lib.hid (FA.out.trans' f2)
    have hb0 := newAt0 w2 (.cells #[.iface 75 (.agg (spn 97 97).cells.toArray), .int .i64 m, .int .i64 (-1)] 32)
    obtain ⟨c, hc⟩ : ∃ c, spn 97 97 = c := ⟨_, rfl⟩
    have hsame : Nd.isOne c (.one c) = true := S4.same_refl c
    have hho := fun w' => of_one 97 w' 5
    rw [show (UInt8.toNat 97) = 97 from rfl, hc] at hho
    rw [hc] at hb0
    rw [S4.cells_eq] at hb0
    have hhh := fun w' => holds_any (.one c) c (.iface 75 (.agg c.cells.toArray)) w' (by rw [RN])
    rw [hsame, S4.cells_eq] at hhh
    rw [hc, S4.cells_eq]
    obtain ⟨w3, hw3⟩ : ∃ w3, w3 = w2.alloc (.cells #[.iface 75 (.agg #[.int .u64 c.a, .int .u64 c.b, .int .u64 c.c, .int .u64 c.d]), .int .i64 m, .int .i64 (-1)] 32) := ⟨_, rfl⟩
    rw [← hw3] at hb0
    have h3 := C3.of hb0
    have k0 := h3.1; have k1 := h3.2.1; have k2 := h3.2.2
    have H3 := Lib.hid h3; have HW3 := Lib.hid hw3; have HHO := Lib.hid hho; have HHH := Lib.hid hhh
    have F3 := Lib.hid (show Fr nob w w3 by rw [hw3]; exact F2.out.alloc _)
    clear f2 ma hb0 hc hsame h3 hw3 hho hhh hmI hnI
    go_wp2_with (rw [← HW3.out])
    go_region_held3 (fun w' => C3 w' w2.heap.size (.iface 75 (.agg #[.int .u64 c.a, .int .u64 c.b, .int .u64 c.c, .int .u64 c.d])) (.int .i64 m) (.int .i64 (-1))) (first | (with_reducible exact H3.out) | (with_reducible exact H3.out.on ((Fr.refl nob w3).drew)) | (with_reducible exact H3.out.on (((Fr.refl nob w3).drew).alloc _)) | (with_reducible exact H3.out.on (((Fr.refl nob w3).alloc _).drew)) | (with_reducible exact H3.out.on G1) | (with_reducible exact H3.out.on G2) | (trace_state; fail)) (first | (go_at_call 11; (refine (HHO.out (World.drew w3)).mono ?_); rintro e g1 ⟨rfl, f1⟩; have G1 : Fr nob w3 g1 := (((Fr.refl nob w3).drew).alloc _).trans' f1; clear f1) | (go_at_call 10; (with_reducible refine (HHH.out _).mono ?_); rintro e g2 ⟨rfl, f2⟩; have G2 : Fr nob w3 g2 := G1.trans' f2; clear f2))
    all_goals
      go_wp2
      go_ret
      exact ⟨rfl, F3.out.trans' G2⟩
  · go_enter Tryd.func3, Tryd.ntmps3
    go_wp2_with fail
    refine HA1.out.mono ?_
    rintro e wa ⟨rfl, fa⟩
    have FA := Lib.hid fa; clear fa
    go_wp2_with fail
    refine (HD.out m wa (by omega)).mono ?_
    rintro e wb ⟨rfl, rfl⟩
    go_wp2_with fail
    refine (HD.out n wa (by omega)).mono ?_
    rintro e wb ⟨rfl, rfl⟩
    have hp := HP.out wa FA.out
    rw [show mxT m n 2 = (n : Int) from rfl] at hp
    by_cases hb0 : 255 < m
    · rw [if_pos (by omega)] at hp
      have q0 : (255 : Int) < (m : Int) := by omega
      have q8 : (0 : Int) ≤ (n : Int) := by omega
      have HPP := Lib.hid hp
      clear hp HP
      go_wp2_with fail
      rw [show 97 :: 92 :: 123 :: (dg m ++ 44 :: (dg n ++ [92, 125])) = bndL m n 2 from rfl]
      refine HPP.out.mono ?_
      rintro e w2 ⟨f2, rfl⟩
      have F2 := Lib.hid (FA.out.trans' f2); clear f2
      go_wp2
      go_ret
      exact ⟨rfl, F2.out⟩
    by_cases hb1 : 255 < n
    · rw [if_pos (by omega)] at hp
      have q0 : ¬ (255 : Int) < (m : Int) := by omega
      have q1 : (255 : Int) < (n : Int) := by omega
      have q8 : (0 : Int) ≤ (n : Int) := by omega
      have HPP := Lib.hid hp
      clear hp HP
      go_wp2_with fail
      rw [show 97 :: 92 :: 123 :: (dg m ++ 44 :: (dg n ++ [92, 125])) = bndL m n 2 from rfl]
      refine HPP.out.mono ?_
      rintro e w2 ⟨f2, rfl⟩
      have F2 := Lib.hid (FA.out.trans' f2); clear f2
      go_wp2
      go_ret
      exact ⟨rfl, F2.out⟩
    by_cases hb2 : n < m
    · rw [if_pos (by omega)] at hp
      have q0 : ¬ (255 : Int) < (m : Int) := by omega
      have q1 : ¬ (255 : Int) < (n : Int) := by omega
      have q2 : (n : Int) < (m : Int) := by omega
      have q8 : (0 : Int) ≤ (n : Int) := by omega
      have HPP := Lib.hid hp
      clear hp HP
      go_wp2_with fail
      rw [show 97 :: 92 :: 123 :: (dg m ++ 44 :: (dg n ++ [92, 125])) = bndL m n 2 from rfl]
      refine HPP.out.mono ?_
      rintro e w2 ⟨f2, rfl⟩
      have F2 := Lib.hid (FA.out.trans' f2); clear f2
      go_wp2
      go_ret
      exact ⟨rfl, F2.out⟩
    rw [if_neg (by omega)] at hp
    have q0 : ¬ (255 : Int) < (m : Int) := by omega
    have q1 : ¬ (255 : Int) < (n : Int) := by omega
    have q2 : ¬ (n : Int) < (m : Int) := by omega
    have q8 : (0 : Int) ≤ (n : Int) := by omega
    obtain ⟨s1, hs1⟩ : ∃ s1 : RxS, s1 = ⟨(bndL m n 2).length, 0, [], []⟩ := ⟨_, rfl⟩
    have hmk : s1.marks = [] := by rw [hs1]
    rw [← hs1] at hp
    have HPP := Lib.hid hp
    clear hp HP hs1
    go_wp2_with fail
    rw [show 97 :: 92 :: 123 :: (dg m ++ 44 :: (dg n ++ [92, 125])) = bndL m n 2 from rfl]
    refine HPP.out.mono ?_
    rintro e w2 ⟨f2, i, y, mv, rfl, rn, ma⟩
    rw [hmk] at ma
    obtain ⟨am, cm, hma⟩ := ownsRow_slice ma
    subst hma
    rw [RN] at rn
    obtain ⟨u, hu, rn1⟩ := rn
    rw [RN] at rn1
    injection hu with hi hy
    subst hi; subst hy; subst rn1
    have F2 := Lib.hid (FA.out.trans' f2)
    have hb0 := newAt0 w2 (.cells #[.iface 75 (.agg (spn 97 97).cells.toArray), .int .i64 m, .int .i64 (n : Int)] 32)
    obtain ⟨c, hc⟩ : ∃ c, spn 97 97 = c := ⟨_, rfl⟩
    have hsame : Nd.isOne c (.one c) = true := S4.same_refl c
    have hho := fun w' => of_one 97 w' 5
    rw [show (UInt8.toNat 97) = 97 from rfl, hc] at hho
    rw [hc] at hb0
    rw [S4.cells_eq] at hb0
    have hhh := fun w' => holds_any (.one c) c (.iface 75 (.agg c.cells.toArray)) w' (by rw [RN])
    rw [hsame, S4.cells_eq] at hhh
    rw [hc, S4.cells_eq]
    obtain ⟨w3, hw3⟩ : ∃ w3, w3 = w2.alloc (.cells #[.iface 75 (.agg #[.int .u64 c.a, .int .u64 c.b, .int .u64 c.c, .int .u64 c.d]), .int .i64 m, .int .i64 (n : Int)] 32) := ⟨_, rfl⟩
    rw [← hw3] at hb0
    have h3 := C3.of hb0
    have k0 := h3.1; have k1 := h3.2.1; have k2 := h3.2.2
    have H3 := Lib.hid h3; have HW3 := Lib.hid hw3; have HHO := Lib.hid hho; have HHH := Lib.hid hhh
    have F3 := Lib.hid (show Fr nob w w3 by rw [hw3]; exact F2.out.alloc _)
    clear f2 ma hb0 hc hsame h3 hw3 hho hhh hmI hnI
    go_wp2_with (rw [← HW3.out])
    go_region_held3 (fun w' => C3 w' w2.heap.size (.iface 75 (.agg #[.int .u64 c.a, .int .u64 c.b, .int .u64 c.c, .int .u64 c.d])) (.int .i64 m) (.int .i64 (n : Int))) (first | (with_reducible exact H3.out) | (with_reducible exact H3.out.on ((Fr.refl nob w3).drew)) | (with_reducible exact H3.out.on (((Fr.refl nob w3).drew).alloc _)) | (with_reducible exact H3.out.on (((Fr.refl nob w3).alloc _).drew)) | (with_reducible exact H3.out.on G1) | (with_reducible exact H3.out.on G2) | (trace_state; fail)) (first | (go_at_call 11; (refine (HHO.out (World.drew w3)).mono ?_); rintro e g1 ⟨rfl, f1⟩; have G1 : Fr nob w3 g1 := (((Fr.refl nob w3).drew).alloc _).trans' f1; clear f1) | (go_at_call 10; (with_reducible refine (HHH.out _).mono ?_); rintro e g2 ⟨rfl, f2⟩; have G2 : Fr nob w3 g2 := G1.trans' f2; clear f2))
    all_goals
      go_wp2
      go_ret
      exact ⟨rfl, F3.out.trans' G2⟩

namespace breBounds
open Go.ChangeShapes Go.WideShapes Go.ChangeAt Go.RowKit
open Go.ChangeMaps (open_string shut_string)

theorem readable : ∀ t ∈ Tryd.f3.params.toList, Tryd.prog.readableRec t = true ∧ t < Tryd.prog.types.size := by
  rw [Tryd.params3]
  intro t ht
  simp only [List.mem_cons, List.not_mem_nil, or_false] at ht
  rcases ht with rfl | rfl | rfl
  all_goals exact ⟨by kernel_rfl, of_decide_eq_true (by kernel_rfl)⟩

set_option maxRecDepth 100000 in
theorem lifted (os : Os) (started : os.Started) (H : Type) (enc : TypeId × Value → H) :
    ReturnsInHanded {} Tryd.checked os 3 .any (fun w args => (Rows.breBoundsSpec.pre enc Tryd.prog Tryd.f3 [] false w args ∧ laidMetH Tryd.prog door.list1 w) ∧ sizedMet enc Tryd.prog Tryd.f3 (OpenSpec.ofChange Rows.breBoundsSpec) false w args)
      (Rows.breBoundsSpec.post enc Tryd.prog Tryd.f3 false true false false) := by
  refine returns_door (C := Tryd.checked) (X := fun w _ => laidMetH Tryd.prog door.list1 w) (fun _ _ _ hh h => h.of_heap hh) door.own started (by kernel_rfl) Tryd.func3
    (ChangeSpec.witness_shaped (enc := enc) (C := Tryd.checked) (os := os) (X := fun w _ => laidMetH Tryd.prog door.list1 w) false (World.doorLaid Tryd.prog 14 os) #[.int .u16 0, .int .u16 0, .int .u8 0] 8 rfl (World.shaped_of_RefB (by kernel_rfl) (by kernel_rfl)) (by kernel_rfl) (by kernel_rfl) (by kernel_rfl) (door.met os _)) ?_
  intro W base args ds gs before hval0 hW _ hL hsh
  have hval : ∀ (j : Nat) t v, Tryd.f3.params[j]? = some t → args[j]? = some v → Value.okWide Tryd.prog W .any base t v := hval0
  have hW' : DataW.Whole enc Tryd.prog Tryd.f3.params.toList Rows.breBoundsSpec.vars false W args.toList ds gs before := hW
  obtain ⟨p, q, hA0, hV, rfl, hfz, hnd⟩ := hW
  have hA : DataW.TrodAll enc Tryd.prog W 0 (fun _ => true) true Tryd.f3.params.toList args.toList ds p := hA0
  rw [Tryd.params3] at hA hval
  obtain ⟨v0, vs0, d0, ds0, p0, q0, hargs, rfl, rfl, h0, r0⟩ := trodAll_cons hA
  obtain ⟨v1, vs1, d1, ds1, p1, q1, rfl, rfl, rfl, h1, r1⟩ := trodAll_cons r0
  obtain ⟨v2, vs2, d2, ds2, p2, q2, rfl, rfl, rfl, h2, r2⟩ := trodAll_cons r1
  obtain ⟨rfl, rfl, rfl⟩ := trodAll_nil r2
  obtain rfl : args = #[v0, v1, v2] := by cases args; simp_all
  obtain ⟨rfl, rfl⟩ := trodVars_none hV
  obtain ⟨x0, rfl, _, _, wx0⟩ := open_int Tryd.underlying22 (hval 0 22 v0 rfl rfl) h0
  obtain ⟨n0, hn0, hb0⟩ : ∃ n : Nat, (n : Int) = x0 ∧ n < 65536 := nat_of_u16 wx0
  subst hn0
  obtain ⟨x1, rfl, _, _, wx1⟩ := open_int Tryd.underlying22 (hval 1 22 v1 rfl rfl) h1
  obtain ⟨n1, hn1, hb1⟩ : ∃ n : Nat, (n : Int) = x1 ∧ n < 65536 := nat_of_u16 wx1
  subst hn1
  obtain ⟨x2, rfl, _, _, wx2⟩ := open_int Tryd.underlying5 (hval 2 5 v2 rfl rfl) h2
  obtain ⟨n2, hn2, hb2⟩ : ∃ n : Nat, (n : Int) = x2 ∧ n < 256 := nat_of_u8 wx2
  subst hn2
  refine (show Calls Tryd.prog 3 #[.int .u16 (n0 : Int), .int .u16 (n1 : Int), .int .u8 (n2 : Int)] W _ from ?_).mono fun e W' h => h
  refine (lawBreBounds n0 n1 n2 W hb0 hb1 hb2 (door.env hL hsh)).mono fun e W' ⟨he, hg⟩ => ?_
  subst he
  exact ⟨_, rfl, law_post rfl (by kernel_rfl) Tryd.underlying4 door.laidOut readable rfl hW' hg.below⟩

theorem over : Rows.breBoundsRow.holds Tryd.pinned (OpenSpec.ofChange Rows.breBoundsSpec) :=
  OpenClaim.holds_of_wide 3 Tryd.f3 rfl rfl rfl rfl rfl rfl rfl ⟨rfl, rfl, rfl, rfl, rfl⟩ rfl rfl rfl rfl rfl (by kernel_rfl) Tryd.func3 (by kernel_rfl)
    (of_decide_eq_true (by kernel_rfl)) (by unfold Func.isWrapper; first | (rw [if_pos (by decide +kernel)]; kernel_rfl) | (rw [if_neg (by decide +kernel)]; exact ⟨rfl, rfl⟩))
    (fun os started H enc _ => lifted os started H enc)

/-- THE STATEMENT: the tied card. -/
theorem proved : Rows.BreBoundsCardSaid :=
  Claim7.holds_tied_plain_at .later [] [.data] true _ true over (fun _ h => by cases h) (by kernel_rfl) (fun _ h => by cases h) breBounds_row_tie rfl ⟨rfl, rfl⟩ (by kernel_rfl) rfl
    (fun f fn hf hfn => by
      obtain rfl : f = 3 := (Option.some.inj ((show Tryd.prog.funcNamed "placket/placketlaw04.BreBounds" = some 3 by kernel_rfl).symm.trans hf)).symm
      obtain rfl : fn = Tryd.f3 := (Option.some.inj (Tryd.func3.symm.trans hfn)).symm
      exact ⟨by kernel_rfl, fun j t ht => by
        rw [Tryd.params3] at ht
        have hm : t ∈ [22, 22, 5] := by
          have := Array.mem_of_getElem? ht
          simpa using this
        exact List.all_eq_true.1 (show ([22, 22, 5] : List TypeId).all (fun t => !Tryd.prog.wantsStandIn t) = true by kernel_rfl) t hm |> fun h => by show Tryd.prog.wantsStandIn t = false; simpa using h⟩)
    (by kernel_rfl)
#print axioms proved
end breBounds

end Go.Proofs.YtpcpmjaphjkphaaDoor
