/-
  AddrNots: a guard with a ! behind is that guard, but a not. For every input; the tables of the library lie as start-up lays them (tied).
-/
import Derived.Test.YtmoeboknelnaoaaGreatDoorCards
import Derived.Test.YtmoeboknelnaoaaGreatDoorTie
import Derived.Test.YtmoeboknelnaoaaGreatDoorM22
import Derived.Test.YtmoeboknelnaoaaGreatDoorM34
import Derived.Test.YtmoeboknelnaoaaGreatDoorM35
import Derived.Test.YtmoeboknelnaoaaGreatDoorM36

namespace Go.Proofs.YtmoeboknelnaoaaGreatDoor
open Go.RowKit

theorem AV.same_refl (a : AV) : AV.same a a := ⟨rfl, fun _ => rfl, fun _ => rfl⟩
theorem lineD_tree {l : List UInt8} {s s' : AdS} {a : AV} (h : lineD l s = .inr (a, s')) : a.tree = .nil := by
  unfold lineD at h
  split at h
  · cases h
  · split at h
    · cases h
    · injection h with h; injection h with h1 h2; subst h1; rfl
theorem moreD_tree {l : List UInt8} {s s' : AdS} {a : AV} (h : moreD l s = .inr (a, s')) : a.tree = .nil := by
  unfold moreD at h
  split at h
  · cases h
  · injection h with h; injection h with h1 h2; subst h1; rfl
theorem regexD_tree {x : Bool} {l : List UInt8} {d : UInt8} {s s' : AdS} {a : AV} (h : regexD x l d s = .inr (a, s')) : a.tree.size ≤ 2 * l.length + 2 := by
  unfold regexD at h
  split at h
  · cases h
  · split at h
    · cases h
    · split at h
      · cases h
      · next t r hp =>
        injection h with h; injection h with h1 h2; subst h1
        have h2 := bt_le l d true (l.length + 1) s.at_ []
        have h3 := (parseD_marks hp).2.2
        simp only [List.length_nil, Nat.zero_add] at h2
        show t.size ≤ _
        omega
theorem Nd.size_nil : Nd.nil.size ≤ 2 := by decide
theorem addrD_tree {x : Bool} {l : List UInt8} {sec : Bool} {s s' : AdS} {a : AV} (h : addrD x l sec s = .inr (a, s')) : a.tree.size ≤ 2 * l.length + 2 := by
  have hn : ∀ a : AV, a.tree = .nil → a.tree.size ≤ 2 * l.length + 2 := fun a e => by rw [e]; have := Nd.size_nil; omega
  unfold addrD at h
  split at h
  · exact hn _ (lineD_tree h)
  · split at h
    · injection h with h; injection h with h1 h2; exact hn _ (by rw [← h1])
    · split at h
      · exact regexD_tree h
      · split at h
        · split at h
          · cases h
          · exact regexD_tree h
        · split at h
          · exact hn _ (moreD_tree h)
          · injection h with h; injection h with h1 h2; exact hn _ (by rw [← h1]; rfl)
theorem pairD_tree {x : Bool} {l : List UInt8} {s s' : AdS} {a : AV} (h : pairD x l s = .inr (a, s')) : a.tree.size ≤ 2 * l.length + 2 := by
  unfold pairD at h
  split at h
  · split at h
    · cases h
    · next b s1 hp =>
      split at h
      · cases h
      · injection h with h; injection h with h1 h2; subst h1; exact addrD_tree hp
  · injection h with h; injection h with h1 h2; rw [← h1]; have := Nd.size_nil; show Nd.nil.size ≤ _; omega
theorem notD_tree {l : List UInt8} {a b : AV} {s s' : AdS} {g : GV} (h : notD l a b s = .inr (g, s')) : g.a = a ∧ g.b = b := by
  unfold notD at h
  split at h
  · split at h
    · cases h
    · injection h with h; injection h with h1 h2; subst h1; exact ⟨rfl, rfl⟩
  · injection h with h; injection h with h1 h2; subst h1; exact ⟨rfl, rfl⟩
theorem guardD_tree {x : Bool} {l : List UInt8} {s s' : AdS} {g : GV} (h : guardD x l s = .inr (g, s')) : g.a.tree.size ≤ 2 * l.length + 2 ∧ g.b.tree.size ≤ 2 * l.length + 2 := by
  unfold guardD at h
  split at h
  · cases h
  · next a s1 ha =>
    split at h
    · cases h
    · next b s2 hb =>
      obtain ⟨e1, e2⟩ := notD_tree h
      rw [e1, e2]
      refine ⟨addrD_tree ha, ?_⟩
      split at hb
      · injection hb with hb; injection hb with h1 h2; rw [← h1]; have := Nd.size_nil; show Nd.nil.size ≤ _; omega
      · exact pairD_tree hb

set_option maxRecDepth 100000 in
set_option maxHeartbeats 4000000 in
theorem lawAddrNots (l : List UInt8) (x : Bool) (n : Nat) (w : World) (hl : l.length ≤ 9223372036854775807) (hn : n < 256) (hE : Env w) :
    Calls Tryz.prog 7 #[.string ⟨l.toArray⟩, .bool x, .int .u8 (n : Int)] w fun e w' => e = .returned (.bool true) ∧ Fr nob w w' := by
  have HE := Lib.hid hE
  have HA1 := Lib.hid (awake12_any w hE)
  clear hE
  by_cases h100 : 100 < l.length
  · have h1 : (100 : Int) < l.length := by omega
    go_enter Tryz.func7, Tryz.ntmps7
    go_wp2_with fail
    refine HA1.out.mono ?_
    rintro e w1 ⟨rfl, f1⟩
    have F1 := Lib.hid f1; clear f1
    go_wp2_with fail
    refine (awake12_any w1 (HE.out.on F1.out)).mono ?_
    rintro e w2 ⟨rfl, f2⟩
    have F2 := Lib.hid (F1.out.trans' f2); clear f2
    go_wp2
    go_ret
    exact ⟨rfl, F2.out⟩
  have h1 : ¬ (100 : Int) < l.length := by omega
  have hla : l.length ≤ 100 := by omega
  have HL := Lib.hid hla
  clear h100 hl hla
  have hP := fun w' (f : Fr nob w w') => parse_guard l 0 x w' (by have := HL.out; omega) (by omega) (HE.out.on f)
  cases hp : guardD x l ⟨0, [], 0⟩ with
  | inl z =>
    obtain ⟨z, p⟩ := z
    have hz : (z == 0) = false := by simpa using guardD_err hp
    have hz' : ¬ z = 0 := guardD_err hp
    rw [hp] at hP
    have HP := Lib.hid hP; clear hP hp
    go_enter Tryz.func7, Tryz.ntmps7
    go_wp2_with fail
    refine HA1.out.mono ?_
    rintro e w1 ⟨rfl, f1⟩
    have F1 := Lib.hid f1; clear f1
    go_wp2_with fail
    refine (HP.out w1 F1.out).mono ?_
    rintro e w2 ⟨f2, rfl⟩
    have F2 := Lib.hid (F1.out.trans' f2); clear f2
    go_wp2
    go_ret
    exact ⟨rfl, F2.out.alloc _⟩
  | inr z =>
    obtain ⟨⟨A, B, no⟩, q, ms, e0⟩ := z
    obtain rfl : e0 = 0 := guardD_ok hp
    rw [hp] at hP
    have HP := Lib.hid hP; clear hP
    cases hno : no with
    | true =>
      subst hno
      clear hp
      go_enter Tryz.func7, Tryz.ntmps7
      go_wp2_with fail
      refine HA1.out.mono ?_
      rintro e w1 ⟨rfl, f1⟩
      have F1 := Lib.hid f1; clear f1
      go_wp2_with fail
      refine (HP.out w1 F1.out).mono ?_
      rintro e w2 ⟨f2, v, mv, rfl, ⟨u1, u2, rfl, r1, r2⟩, ma⟩
      have o1 := r1.shape; have o2 := r2.shape
      have F2 := Lib.hid (F1.out.trans' f2); clear f2 r1 r2 ma
      rcases o1 with rfl | ⟨i1, y1, rfl⟩ <;> rcases o2 with rfl | ⟨i2, y2, rfl⟩
      all_goals
        go_wp2
        go_ret
        exact ⟨rfl, F2.out.alloc _⟩
    | false =>
      subst hno
      by_cases hq : q = l.length
      · subst hq
        obtain ⟨k, hk, hk3⟩ : ∃ k : Nat, ((n : Int).tmod 4 = (k : Nat)) ∧ k ≤ 3 := ⟨n % 4, by rw [Int.tmod_eq_emod_of_nonneg (by omega)]; omega, by omega⟩
        have hp2 := guardD_not (pad := List.replicate k 32) (fun b hb => List.eq_of_mem_replicate hb) hp rfl
        have hext : (ByteArray.mk #[32, 32, 32]).extract 0 k = ⟨(List.replicate k 32).toArray⟩ := by
          obtain rfl | rfl | rfl | rfl : k = 0 ∨ k = 1 ∨ k = 2 ∨ k = 3 := by omega
          all_goals rfl
        have etx : l ++ 33 :: (List.replicate k 32 ++ [112]) = l ++ [33] ++ List.replicate k 32 ++ [112] := by simp
        obtain ⟨zA, zB⟩ := guardD_tree hp
        have HZA := Lib.hid zA; have HZB := Lib.hid zB
        simp only at zA zB
        have hP2 := fun w' (f : Fr nob w w') => parse_guard (l ++ 33 :: (List.replicate k 32 ++ [112])) 0 x w' (by have := HL.out; simp; omega) (by omega) (HE.out.on f)
        rw [hp2, etx, List.length_replicate] at hP2
        have HP2 := Lib.hid hP2
        have hb := HL.out
        have HK := Lib.hid hk
        clear hP2 hp2 hp zA zB etx
        go_enter Tryz.func7, Tryz.ntmps7
        go_wp2_with fail
        refine HA1.out.mono ?_
        rintro e w1 ⟨rfl, f1⟩
        have F1 := Lib.hid f1; clear f1
        go_wp2_with fail
        refine (HP.out w1 F1.out).mono ?_
        rintro e w2 ⟨f2, v, mv, rfl, ⟨u1, u2, rfl, r1, r2⟩, ma⟩
        have o1 := r1.shape; have o2 := r2.shape
        have F2 := Lib.hid (F1.out.trans' f2)
        have R1 := Lib.hid r1; have R2 := Lib.hid r2
        obtain ⟨am1, cm1, hm1⟩ := ownsRow_slice ma
        subst hm1
        clear f2 r1 r2 ma
        rcases o1 with rfl | ⟨i1, y1, rfl⟩ <;> rcases o2 with rfl | ⟨i2, y2, rfl⟩
        all_goals
          go_wp2_with fail
          refine (HP2.out _ (F2.out.alloc _)).mono ?_
          rintro e w3 ⟨f3, v, mv3, rfl, ⟨u3, u4, rfl, r3, r4⟩, ma3⟩
          have o3 := r3.shape; have o4 := r4.shape
          have hb3 := f3.heap (newAt0 w2 _) (fun x => x)
          have rb3 := rule9 hb3
          have R3 := Lib.hid r3; have R4 := Lib.hid r4
          have F3 := Lib.hid ((F2.out.alloc _).trans' f3)
          have F23 := Lib.hid (((Fr.refl nob w2).alloc _).trans' f3)
          obtain ⟨am, cm, hm⟩ := ownsRow_slice ma3
          subst hm
          clear f3 r3 r4 ma3 hb3
          rcases o3 with rfl | ⟨i3, y3, rfl⟩ <;> rcases o4 with rfl | ⟨i4, y4, rfl⟩
        all_goals
          go_wp2_with fail
          refine (same_guard ⟨A, B, false⟩ ⟨A, B, false⟩ _ _ _ (by have := HL.out; have := HZA.out; simp only at this ⊢; omega) (by have := HL.out; have := HZB.out; simp only at this ⊢; omega) (by have := HL.out; have := HZA.out; simp only at this ⊢; omega) (by have := HL.out; have := HZB.out; simp only at this ⊢; omega) ⟨_, _, rfl, (R1.out.on F23.out).on ((Fr.refl nob w3).alloc _), (R2.out.on F23.out).on ((Fr.refl nob w3).alloc _)⟩ ⟨_, _, rfl, R3.out.on ((Fr.refl nob w3).alloc _), R4.out.on ((Fr.refl nob w3).alloc _)⟩).mono ?_
          rintro e w5 ⟨r, rfl, hr, f5⟩
          obtain rfl : r = true := hr.2 ⟨AV.same_refl _, AV.same_refl _, rfl⟩
          have F5 := Lib.hid ((F3.out.alloc _).trans' f5)
          clear f5 hr
          go_wp2
          go_ret
          exact ⟨rfl, F5.out⟩
      · have hq' : ((q : Int) == (l.length : Int)) = false := by rw [beq_eq_false_iff_ne]; omega
        clear hp
        have HQ := Lib.hid hq; clear hq
        go_enter Tryz.func7, Tryz.ntmps7
        go_wp2_with fail
        refine HA1.out.mono ?_
        rintro e w1 ⟨rfl, f1⟩
        have F1 := Lib.hid f1; clear f1
        go_wp2_with fail
        refine (HP.out w1 F1.out).mono ?_
        rintro e w2 ⟨f2, v, mv, rfl, ⟨u1, u2, rfl, r1, r2⟩, ma⟩
        have o1 := r1.shape; have o2 := r2.shape
        have F2 := Lib.hid (F1.out.trans' f2); clear f2 r1 r2 ma
        rcases o1 with rfl | ⟨i1, y1, rfl⟩ <;> rcases o2 with rfl | ⟨i2, y2, rfl⟩
        all_goals
          go_wp2
          go_ret
          exact ⟨rfl, F2.out.alloc _⟩
-- CLOSING
namespace addrNots
open Go.ChangeShapes Go.WideShapes Go.ChangeAt Go.RowKit
open Go.ChangeMaps (open_string shut_string)

theorem readable : ∀ t ∈ Tryz.f7.params.toList, Tryz.prog.readableRec t = true ∧ t < Tryz.prog.types.size := by
  rw [Tryz.params7]
  intro t ht
  simp only [List.mem_cons, List.not_mem_nil, or_false] at ht
  rcases ht with rfl | rfl | rfl
  all_goals exact ⟨by kernel_rfl, of_decide_eq_true (by kernel_rfl)⟩

set_option maxRecDepth 100000 in
theorem lifted (os : Os) (started : os.Started) (H : Type) (enc : TypeId × Value → H) :
    ReturnsInHanded {} Tryz.checked os 7 .any (fun w args => (Rows.addrNotsSpec.pre enc Tryz.prog Tryz.f7 [] false w args ∧ laidMetH Tryz.prog door.list1 w) ∧ sizedMet enc Tryz.prog Tryz.f7 (OpenSpec.ofChange Rows.addrNotsSpec) false w args)
      (Rows.addrNotsSpec.post enc Tryz.prog Tryz.f7 false true false false) := by
  refine returns_door (C := Tryz.checked) (X := fun w _ => laidMetH Tryz.prog door.list1 w) (fun _ _ _ hh h => h.of_heap hh) door.own started (by kernel_rfl) Tryz.func7
    (ChangeSpec.witness_shaped (enc := enc) (C := Tryz.checked) (os := os) (X := fun w _ => laidMetH Tryz.prog door.list1 w) false (World.laidAll Tryz.prog os door.list1) #[.string ByteArray.empty, .bool false, .int .u8 0] 8 (World.laidAll_os _ _ _) (World.shaped_of_ZipB (by kernel_rfl) (by kernel_rfl)) (by kernel_rfl) (by kernel_rfl) (by kernel_rfl) (by rw [MakeChecks.laidMetH_plain _ _ _ (by kernel_rfl)]; exact laidMet_laidAll _ (by kernel_rfl) (by kernel_rfl))) ?_
  intro W base args ds gs before hval0 hW _ hL hsh
  have hval : ∀ (j : Nat) t v, Tryz.f7.params[j]? = some t → args[j]? = some v → Value.okWide Tryz.prog W .any base t v := hval0
  have hW' : DataW.Whole enc Tryz.prog Tryz.f7.params.toList Rows.addrNotsSpec.vars false W args.toList ds gs before := hW
  obtain ⟨p, q, hA0, hV, rfl, hfz, hnd⟩ := hW
  have hA : DataW.TrodAll enc Tryz.prog W 0 (fun _ => true) true Tryz.f7.params.toList args.toList ds p := hA0
  rw [Tryz.params7] at hA hval
  obtain ⟨v0, vs0, d0, ds0, p0, q0, hargs, rfl, rfl, h0, r0⟩ := trodAll_cons hA
  obtain ⟨v1, vs1, d1, ds1, p1, q1, rfl, rfl, rfl, h1, r1⟩ := trodAll_cons r0
  obtain ⟨v2, vs2, d2, ds2, p2, q2, rfl, rfl, rfl, h2, r2⟩ := trodAll_cons r1
  obtain ⟨rfl, rfl, rfl⟩ := trodAll_nil r2
  obtain rfl : args = #[v0, v1, v2] := by cases args; simp_all
  obtain ⟨rfl, rfl⟩ := trodVars_none hV
  obtain ⟨s0, rfl, _, _, ws0⟩ := open_string Tryz.underlying9 (hval 0 9 v0 rfl rfl) h0
  obtain ⟨b1, rfl, _, _⟩ := open_bool Tryz.underlying4 (hval 1 4 v1 rfl rfl) h1
  obtain ⟨x2, rfl, _, _, wx2⟩ := open_int Tryz.underlying5 (hval 2 5 v2 rfl rfl) h2
  obtain ⟨n2, hn2, hb2⟩ : ∃ n : Nat, (n : Int) = x2 ∧ n < 256 := nat_of_u8 wx2
  subst hn2
  have hs0 : s0 = ⟨s0.data.toList.toArray⟩ := by simp
  refine (show Calls Tryz.prog 7 #[.string s0, .bool b1, .int .u8 (n2 : Int)] W _ from ?_).mono fun e W' h => h
  rw [hs0]
  refine (lawAddrNots s0.data.toList b1 n2 W (by unfold maxLen at ws0; exact ws0) hb2 (door.env hL hsh)).mono fun e W' ⟨he, hg⟩ => ?_
  subst he
  exact ⟨_, rfl, law_post rfl (by kernel_rfl) Tryz.underlying4 door.laidOut readable rfl hW' hg.below⟩

theorem over : Rows.addrNotsRow.holds Tryz.pinned (OpenSpec.ofChange Rows.addrNotsSpec) :=
  OpenClaim.holds_of_wide 7 Tryz.f7 rfl rfl rfl rfl rfl rfl rfl ⟨rfl, rfl, rfl, rfl, rfl⟩ rfl rfl rfl rfl rfl (by kernel_rfl) Tryz.func7 (by kernel_rfl)
    (of_decide_eq_true (by kernel_rfl)) (by unfold Func.isWrapper; first | (rw [if_pos (by decide +kernel)]; kernel_rfl) | (rw [if_neg (by decide +kernel)]; exact ⟨rfl, rfl⟩))
    (fun os started H enc _ => lifted os started H enc)

/-- THE STATEMENT: the tied card. -/
theorem proved : Rows.AddrNotsCardSaid :=
  Claim7.holds_tied_plain_at .later [] [.data, .data, .pinned] true _ true over (fun _ h => by cases h) (by kernel_rfl) (fun _ h => by cases h) addrNots_row_tie rfl ⟨rfl, rfl⟩ (by kernel_rfl) rfl
    (fun f fn hf hfn => by
      obtain rfl : f = 7 := (Option.some.inj ((show Tryz.prog.funcNamed "placket/placketlaw12.AddrNots" = some 7 by kernel_rfl).symm.trans hf)).symm
      obtain rfl : fn = Tryz.f7 := (Option.some.inj (Tryz.func7.symm.trans hfn)).symm
      exact ⟨by kernel_rfl, fun j t ht => by
        rw [Tryz.params7] at ht
        have hm : t ∈ [9, 4, 5] := by
          have := Array.mem_of_getElem? ht
          simpa using this
        exact List.all_eq_true.1 (show ([9, 4, 5] : List TypeId).all (fun t => !Tryz.prog.wantsStandIn t) = true by kernel_rfl) t hm |> fun h => by show Tryz.prog.wantsStandIn t = false; simpa using h⟩)
    (by kernel_rfl)
#print axioms proved
end addrNots

end Go.Proofs.YtmoeboknelnaoaaGreatDoor
