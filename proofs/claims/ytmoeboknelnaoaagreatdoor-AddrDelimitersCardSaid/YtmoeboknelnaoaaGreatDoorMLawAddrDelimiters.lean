/-
  AddrDelimiters: a regex of letters between any delimiters is that regex, by its tree, and the place behind. For every input; the tables of the library lie as start-up lays them (tied).
-/
import Derived.Test.YtmoeboknelnaoaaGreatDoorCards
import Derived.Test.YtmoeboknelnaoaaGreatDoorTie
import Derived.Test.YtmoeboknelnaoaaGreatDoorM22
import Derived.Test.YtmoeboknelnaoaaGreatDoorM35
import Derived.Test.YtmoeboknelnaoaaGreatDoorM36

namespace Go.Proofs.YtmoeboknelnaoaaGreatDoor
open Go.RowKit

theorem conv_one (w : World) (b : Nat) (d : UInt8) (T : TypeId) (fr : Nat × Nat) (h : w.heap[b]? = some (.cells #[.int .u8 (d.toNat : Int)] T fr)) : (convert 59 9 (.slice (some ⟨b, 0, none⟩) 1 1)).run Tryz.prog w = .ok (.string ⟨[d].toArray⟩) w := by
  refine run_conv_bytes Tryz.underlying59 Tryz.underlying5 Tryz.underlying9 ⟨b, 0, none⟩ 1 [d] w ?_
  intro j v hj
  unfold bcells bcell at hj
  match j with
  | 0 =>
    simp only [List.map_cons, List.map_nil, List.getElem?_cons_zero] at hj
    injection hj with hj; subst hj
    have := cell_at (j := 0) (v := .int .u8 (d.toNat : Int)) h rfl
    simpa [Addr.add] using this
  | j + 1 => simp at hj

theorem B4.on {w w' : World} {b : Nat} {v0 v1 v2 v3 : Value} (h : B4 w b v0 v1 v2 v3) (f : Fr nob w w') : B4 w' b v0 v1 v2 v3 := ⟨f.cell h.1 (fun x => x), f.cell h.2.1 (fun x => x), f.cell h.2.2.1 (fun x => x), f.cell h.2.2.2 (fun x => x)⟩
set_option maxRecDepth 100000 in
set_option maxHeartbeats 4000000 in
theorem lawAddrDelimiters (d : UInt8) (n : Nat) (w : World) (hn : n < 256) (hE : Env w) :
    Calls Tryz.prog 5 #[.int .u8 (d.toNat : Int), .int .u8 (n : Int)] w fun e w' => e = .returned (.bool true) ∧ Fr nob w w' := by
  have HE := Lib.hid hE
  have HA1 := Lib.hid (awake12_any w hE)
  clear hE
  by_cases hx : d = 92 ∨ d = 10 ∨ d = 97
  · rcases hx with rfl | rfl | rfl
    all_goals
      go_enter Tryz.func5, Tryz.ntmps5
      go_wp2_with fail
      refine HA1.out.mono ?_
      rintro e w1 ⟨rfl, f1⟩
      have F1 := Lib.hid f1; clear f1
      go_wp2_with fail
      refine (awake12_any w1 (HE.out.on F1.out)).mono ?_
      rintro e w2 ⟨rfl, f2⟩
      have F2 := Lib.hid (F1.out.trans' f2); clear f2
      go_wp2
      go_ret
      exact ⟨rfl, F2.out⟩
  have d1 : d ≠ 92 := fun e => hx (.inl e)
  have d2 : d ≠ 10 := fun e => hx (.inr (.inl e))
  have d3 : d ≠ 97 := fun e => hx (.inr (.inr e))
  have t1 : ((d.toNat : Int) == 92) = false := tb_ne (b := 92) d1
  have t2 : ((d.toNat : Int) == 10) = false := tb_ne (b := 10) d2
  have t3 : ((d.toNat : Int) == 97) = false := tb_ne (b := 97) d3
  obtain ⟨m, hm, hm0, hm1, hm2⟩ : ∃ m : Nat, (1 + (n : Int) % 10 = (m : Int)) ∧ 1 + n % 10 = m ∧ 1 ≤ m ∧ m ≤ 10 := ⟨1 + n % 10, by omega, rfl, by omega, by omega⟩
  have hext : (ByteArray.mk #[97, 97, 97, 97, 97, 97, 97, 97, 97, 97]).extract 0 m = ⟨(List.replicate m 97).toArray⟩ := by
    obtain rfl | rfl | rfl | rfl | rfl | rfl | rfl | rfl | rfl | rfl : m = 1 ∨ m = 2 ∨ m = 3 ∨ m = 4 ∨ m = 5 ∨ m = 6 ∨ m = 7 ∨ m = 8 ∨ m = 9 ∨ m = 10 := by omega
    all_goals rfl
  obtain ⟨x, hxx⟩ : ∃ x, ((n : Int) % 2 == 0) = x := ⟨_, rfl⟩
  have hP := fun w' (f : Fr nob w w') => parse_addr ([92] ++ [d] ++ List.replicate m 97 ++ [d] ++ [112]) 0 x false w' (by simp; omega) (by omega) (HE.out.on f)
  rw [delim_addr x d m hm1 hm2 d3 d1 d2] at hP
  have HP := Lib.hid hP
  have HT := Lib.hid (as_tree m hm1 hm2)
  have HD := Lib.hid (And.intro d1 (And.intro d2 d3))
  clear hP hx d1 d2 d3
  obtain ⟨AS, hAS⟩ : ∃ AS, List.replicate m (97 : UInt8) = AS := ⟨_, rfl⟩
  have hlen : AS.length = m := by rw [← hAS]; exact List.length_replicate
  obtain ⟨S, hS⟩ : ∃ S, spn 97 97 = S := ⟨_, rfl⟩
  have HB := Lib.hid (fun w' => byteT_lit hS w')
  have HRT := Lib.hid (fun (S' : Nat → Prop) (w' : World) => (show RT S' w' aT [.int .i64 1, .int .u64 S.a, .int .u64 S.b, .int .u64 S.c, .int .u64 S.d, .slice none 0 0, .int .i64 0, .int .i64 0, .int .i64 0] from hS ▸ aT_rt S' w'))
  rw [hAS] at HP hext
  obtain ⟨TX, hTX⟩ : ∃ TX, [92] ++ [d] ++ AS ++ [d] ++ [112] = TX := ⟨_, rfl⟩
  rw [hTX] at HP
  have hTX : (92 :: d :: (AS ++ [d, 112])) = TX := by rw [← hTX]; simp
  clear hAS hS
  go_enter Tryz.func5, Tryz.ntmps5
  go_wp2_with fail
  refine HA1.out.mono ?_
  rintro e w1 ⟨rfl, f1⟩
  have F1 := Lib.hid f1; clear f1
  have hcv := conv_one (w1.alloc (.cells #[.int .u8 (d.toNat : Int)] 5)) w1.heap.size d _ _ (newAt0 w1 _)
  go_wp2_with fail
  refine (HP.out _ (F1.out.alloc _)).mono ?_
  rintro e w2 ⟨f2, v, mv, rfl, ⟨u, rfl, r1⟩, ma⟩
  obtain ⟨am1, cm1, hm1⟩ := ownsRow_slice ma
  subst hm1
  have o1 := r1.shape
  have R1 := Lib.hid r1
  have F2 := Lib.hid ((F1.out.alloc _).trans' f2)
  clear f2 r1 ma hcv hTX hext
  have hu := aN_some hm1 hm2 R1.out
  obtain ⟨i1, y1, rfl⟩ := hu
  obtain ⟨w3, hw3⟩ : ∃ w3, w3 = w2.alloc (.cells #[.int .i64 3, .int .i64 0, .string ⟨AS.toArray⟩, .iface i1 y1] 27) := ⟨_, rfl⟩
  have f3 : Fr nob w2 w3 := by rw [hw3]; exact (Fr.refl _ _).alloc _
  have hb3 : w3.heap[w2.heap.size]? = some (.cells #[.int .i64 3, .int .i64 0, .string ⟨AS.toArray⟩, .iface i1 y1] 27 (0, 0)) := by rw [hw3]; exact newAt _ _
  have F3 := Lib.hid (F2.out.trans' f3)
  have R3 := Lib.hid (R1.out.on f3)
  have HB3 := Lib.hid hb3; have HW3 := Lib.hid hw3
  clear o1 f3 hb3 hw3
  go_wp2_with (rw [← HW3.out])
  go_loopw [11, 54] (fun s i wr => ∃ (k : Nat) (g : Option Nat), i = .int .i64 k ∧ k ≤ m ∧ OwnT nob wr (List.replicate k aT) s g ∧ Fr nob w3 wr ∧ ∀ j, g = some j → w3.heap.size ≤ j) (fun _ i _ => m - (intOf i).toNat)
  case atStart => exact ⟨0, some w3.heap.size, rfl, Nat.zero_le _, ⟨[], World.ownsRow_made w3 #[] 0 (Nat.zero_le _) (by decide) (by simp), (show VT _ _ [] [] from rfl), rfl, fun _ _ h => h.elim⟩, (Fr.refl _ _).alloc _, fun j hj => by injection hj with hj; omega⟩
  case round =>
    obtain ⟨k, g, rfl, hk, ho, fr, hg⟩ := hrel
    obtain ⟨av, cv, he⟩ := ho.shape
    rw [List.length_replicate] at he
    subst he
    have HO := Lib.hid ho; have FR := Lib.hid fr; have HG := Lib.hid hg
    clear ho fr hg
    by_cases hlt : k < m
    · go_wp2_with fail
      refine (HB.out wr).mono ?_
      rintro e w4 ⟨rfl, f4⟩
      have F4 := Lib.hid f4
      clear f4
      go_wp2_with (at_builtin; refine wpList_append_t (S := nob) rfl (.tmp 56) (.tmp 58) rfl (List.replicate k aT) [aT] _ _ g (by rfl) (HO.out.on (F4.out.alloc _)) (by rfl) (ST.one (HRT.out _ _) (fun k hk => by rcases hk with hk | hk; exact hk.elim; exact (HO.out.on F4.out).lt k hk) _ rfl) (fun k hk => hk.elim) (by simp only [List.length_replicate, List.length_singleton]; omega) ?_; intro v' w5 g' ho3 hf3 hg3; obtain ⟨av', cv', he3⟩ := ho3.shape; simp only [List.length_append, List.length_singleton, List.length_replicate] at he3; subst he3; have HO3 := Lib.hid ho3; have HF3 := Lib.hid hf3; have HG3 := Lib.hid hg3; clear ho3 hf3 hg3)
      go_roundw
      case rel =>
        have hs4 := (FR.out.trans' F4.out).size
        exact ⟨k + 1, g', by go_num, by omega, by rw [List.replicate_succ']; exact HO3.out, ((FR.out.trans' F4.out).alloc _).trans HF3.out (fun i hi x => by have := HG.out i x; omega), fun j hj => by
          rcases HG3.out j hj with h | h
          · exact HG.out j h
          · simp only [World.size_alloc] at h; omega⟩
      case measure => simp [intOf]; omega
    · obtain rfl : k = m := by omega
      have hkk : k = AS.length := hlen.symm
      clear hlen hm hm0
      subst hkk
      have hwr3 : IntKind.i64.wrap ((AS.length : Int) + 3) = (AS.length : Int) + 3 := IntWalk.i64_in _ (by omega)
      have hba := FR.out.heap HB3.out (fun x => x)
      have HST := Lib.hid HO.out.st
      have HRN := Lib.hid (R3.out.on FR.out)
      have FW := Lib.hid (F3.out.trans' FR.out)
      have hq := B4.of hba
      have HQ := Lib.hid hq
      obtain ⟨JT, hJT⟩ : ∃ JT, joinT (List.replicate AS.length aT) = JT := ⟨_, rfl⟩
      have hbl : T.bulks (List.replicate AS.length aT) ≤ 3000000 := by
        obtain h | h | h | h | h | h | h | h | h | h : AS.length = 1 ∨ AS.length = 2 ∨ AS.length = 3 ∨ AS.length = 4 ∨ AS.length = 5 ∨ AS.length = 6 ∨ AS.length = 7 ∨ AS.length = 8 ∨ AS.length = 9 ∨ AS.length = 10 := by omega
        all_goals (rw [h]; decide +kernel)
      have hJ := fun (w' : World) (f : Fr nob wr w') => joinT_any (List.replicate AS.length aT) _ w' hbl (HST.out.on f)
      rw [hJT] at hJ HT
      have HJ := Lib.hid hJ
      clear hba hJ hJT hbl HO HST HB3 HW3
      obtain ⟨hn1, hn2, hn3⟩ := HT.out
      have HN1 := Lib.hid hn1; have HN2 := Lib.hid hn2; have HN3 := Lib.hid hn3
      clear hn1 hn2 hn3 HT
      go_wp2_with fail
      go_region_held3 (fun w' => B4 w' w2.heap.size (.int .i64 3) (.int .i64 0) (.string ⟨AS.toArray⟩) (.iface i1 y1)) (first | (with_reducible exact HQ.out) | (with_reducible exact B4.on HQ.out (Fr.drew (Fr.refl _ _))) | (with_reducible exact B4.on HQ.out G1.out) | (with_reducible exact B4.on HQ.out G2.out) | (with_reducible exact B4.on HQ.out G3.out)) (first | (go_at_call 19; (with_reducible refine (HJ.out _ (by first | exact Fr.refl _ _ | exact Fr.drew (Fr.refl _ _))).mono ?_); rintro e g1 ⟨cs, rfl, rt, f1⟩; have RT1 := Lib.hid rt; have G1 := Lib.hid (show Fr nob wr g1 from by first | exact f1 | exact (Fr.drew (Fr.refl _ _)).trans' f1); clear rt f1) | (go_at_call 17; (with_reducible refine (same_any 3000000 (aN AS.length) JT.nd _ _ _ HN2.out HN2.out HN3.out (HRN.out.on G2.out) RV.out).mono ?_); rintro e g3 ⟨r, rfl, hr, f3⟩; (obtain rfl : r = true := hr.2 HN1.out); have G3 := Lib.hid (G2.out.trans' f3); clear hr f3) | (go_at_call 18; have hC := real_any JT.nd.size JT _ _ (Nat.le_refl _) HN3.out RT1.out; (with_reducible refine hC.mono ?_); clear hC; rintro e g2 ⟨v1, rfl, r1, f2⟩; have RV := Lib.hid (show RN nob g2 JT.nd v1 from RN.keep (Fr.refl nob _) (fun _ _ x => x.elim) (fun _ _ x => x.elim) _ _ r1); have G2 := Lib.hid (G1.out.trans' f2); clear r1 f2))
      all_goals
        go_wp2
        go_ret
        exact ⟨rfl, FW.out.trans' G3.out⟩
-- CLOSING
namespace addrDelimiters
open Go.ChangeShapes Go.WideShapes Go.ChangeAt Go.RowKit
open Go.ChangeMaps (open_string shut_string)

theorem readable : ∀ t ∈ Tryz.f5.params.toList, Tryz.prog.readableRec t = true ∧ t < Tryz.prog.types.size := by
  rw [Tryz.params5]
  intro t ht
  simp only [List.mem_cons, List.not_mem_nil, or_false] at ht
  rcases ht with rfl | rfl
  all_goals exact ⟨by kernel_rfl, of_decide_eq_true (by kernel_rfl)⟩

set_option maxRecDepth 100000 in
theorem lifted (os : Os) (started : os.Started) (H : Type) (enc : TypeId × Value → H) :
    ReturnsInHanded {} Tryz.checked os 5 .any (fun w args => (Rows.addrDelimitersSpec.pre enc Tryz.prog Tryz.f5 [] false w args ∧ laidMetH Tryz.prog door.list1 w) ∧ sizedMet enc Tryz.prog Tryz.f5 (OpenSpec.ofChange Rows.addrDelimitersSpec) false w args)
      (Rows.addrDelimitersSpec.post enc Tryz.prog Tryz.f5 false true false false) := by
  refine returns_door (C := Tryz.checked) (X := fun w _ => laidMetH Tryz.prog door.list1 w) (fun _ _ _ hh h => h.of_heap hh) door.own started (by kernel_rfl) Tryz.func5
    (ChangeSpec.witness_shaped (enc := enc) (C := Tryz.checked) (os := os) (X := fun w _ => laidMetH Tryz.prog door.list1 w) false (World.laidAll Tryz.prog os door.list1) #[.int .u8 0, .int .u8 0] 8 (World.laidAll_os _ _ _) (World.shaped_of_ZipB (by kernel_rfl) (by kernel_rfl)) (by kernel_rfl) (by kernel_rfl) (by kernel_rfl) (by rw [MakeChecks.laidMetH_plain _ _ _ (by kernel_rfl)]; exact laidMet_laidAll _ (by kernel_rfl) (by kernel_rfl))) ?_
  intro W base args ds gs before hval0 hW _ hL hsh
  have hval : ∀ (j : Nat) t v, Tryz.f5.params[j]? = some t → args[j]? = some v → Value.okWide Tryz.prog W .any base t v := hval0
  have hW' : DataW.Whole enc Tryz.prog Tryz.f5.params.toList Rows.addrDelimitersSpec.vars false W args.toList ds gs before := hW
  obtain ⟨p, q, hA0, hV, rfl, hfz, hnd⟩ := hW
  have hA : DataW.TrodAll enc Tryz.prog W 0 (fun _ => true) true Tryz.f5.params.toList args.toList ds p := hA0
  rw [Tryz.params5] at hA hval
  obtain ⟨v0, vs0, d0, ds0, p0, q0, hargs, rfl, rfl, h0, r0⟩ := trodAll_cons hA
  obtain ⟨v1, vs1, d1, ds1, p1, q1, rfl, rfl, rfl, h1, r1⟩ := trodAll_cons r0
  obtain ⟨rfl, rfl, rfl⟩ := trodAll_nil r1
  obtain rfl : args = #[v0, v1] := by cases args; simp_all
  obtain ⟨rfl, rfl⟩ := trodVars_none hV
  obtain ⟨x0, rfl, _, _, wx0⟩ := open_int Tryz.underlying5 (hval 0 5 v0 rfl rfl) h0
  obtain ⟨c0, hc0⟩ : ∃ c : UInt8, (c.toNat : Int) = x0 := ⟨_, byte_of_wf wx0⟩
  subst hc0
  obtain ⟨x1, rfl, _, _, wx1⟩ := open_int Tryz.underlying5 (hval 1 5 v1 rfl rfl) h1
  obtain ⟨n1, hn1, hb1⟩ : ∃ n : Nat, (n : Int) = x1 ∧ n < 256 := nat_of_u8 wx1
  subst hn1
  refine (show Calls Tryz.prog 5 #[.int .u8 (c0.toNat : Int), .int .u8 (n1 : Int)] W _ from ?_).mono fun e W' h => h
  refine (lawAddrDelimiters c0 n1 W hb1 (door.env hL hsh)).mono fun e W' ⟨he, hg⟩ => ?_
  subst he
  exact ⟨_, rfl, law_post rfl (by kernel_rfl) Tryz.underlying4 door.laidOut readable rfl hW' hg.below⟩

theorem over : Rows.addrDelimitersRow.holds Tryz.pinned (OpenSpec.ofChange Rows.addrDelimitersSpec) :=
  OpenClaim.holds_of_wide 5 Tryz.f5 rfl rfl rfl rfl rfl rfl rfl ⟨rfl, rfl, rfl, rfl, rfl⟩ rfl rfl rfl rfl rfl (by kernel_rfl) Tryz.func5 (by kernel_rfl)
    (of_decide_eq_true (by kernel_rfl)) (by unfold Func.isWrapper; first | (rw [if_pos (by decide +kernel)]; kernel_rfl) | (rw [if_neg (by decide +kernel)]; exact ⟨rfl, rfl⟩))
    (fun os started H enc _ => lifted os started H enc)

/-- THE STATEMENT: the tied card. -/
theorem proved : Rows.AddrDelimitersCardSaid :=
  Claim7.holds_tied_plain_at .later [] [.data, .data, .pinned] true _ true over (fun _ h => by cases h) (by kernel_rfl) (fun _ h => by cases h) addrDelimiters_row_tie rfl ⟨rfl, rfl⟩ (by kernel_rfl) rfl
    (fun f fn hf hfn => by
      obtain rfl : f = 5 := (Option.some.inj ((show Tryz.prog.funcNamed "placket/placketlaw12.AddrDelimiters" = some 5 by kernel_rfl).symm.trans hf)).symm
      obtain rfl : fn = Tryz.f5 := (Option.some.inj (Tryz.func5.symm.trans hfn)).symm
      exact ⟨by kernel_rfl, fun j t ht => by
        rw [Tryz.params5] at ht
        have hm : t ∈ [5, 5] := by
          have := Array.mem_of_getElem? ht
          simpa using this
        exact List.all_eq_true.1 (show ([5, 5] : List TypeId).all (fun t => !Tryz.prog.wantsStandIn t) = true by kernel_rfl) t hm |> fun h => by show Tryz.prog.wantsStandIn t = false; simpa using h⟩)
    (by kernel_rfl)
#print axioms proved
end addrDelimiters

end Go.Proofs.YtmoeboknelnaoaaGreatDoor
