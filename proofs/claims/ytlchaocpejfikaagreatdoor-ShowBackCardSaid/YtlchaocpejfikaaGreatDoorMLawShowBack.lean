/-
  ShowBack: what is shown of the tree of any regex, basic or extended, is read as the same tree. For every string, either kind; the tables of the library lie as start-up lays them (tied).
-/
import Derived.Test.YtlchaocpejfikaaGreatDoorCards
import Derived.Test.YtlchaocpejfikaaGreatDoorTie
import Derived.Test.YtlchaocpejfikaaGreatDoorM03
import Derived.Test.YtlchaocpejfikaaGreatDoorM18
import Derived.Test.YtlchaocpejfikaaGreatDoorM19
import Derived.Test.YtlchaocpejfikaaGreatDoorM25
import Derived.Test.YtlchaocpejfikaaGreatDoorM28
import Derived.Test.YtlchaocpejfikaaGreatDoorM32

namespace Go.Proofs.YtlchaocpejfikaaGreatDoor
open Go.RowKit

mutual
theorem Nd.wft_fits : ∀ (n : Nd) (m : Nat), n.wft m → n.fits
  | .nil, _, h => by rw [Nd.wft] at h; exact h.elim
  | .one c, _, h => by rw [Nd.wft] at h; exact h
  | .cat l, m, h => by rw [Nd.wft] at h; exact Nd.wfts_fits l m h.2.2
  | .alt l, m, h => by rw [Nd.wft] at h; exact Nd.wfts_fits l m h.2.2
  | .rep x a b, m, h => by rw [Nd.wft] at h; exact Nd.wft_fits x m h.2.2
  | .group n x, m, h => by rw [Nd.wft] at h; obtain ⟨k, _, h⟩ := h; exact Nd.wft_fits x k h
  | .back n, _, _ => trivial
  | .empty, _, _ => trivial
  | .start, _, _ => trivial
  | .fin, _, _ => trivial
theorem Nd.wfts_fits : ∀ (l : List Nd) (m : Nat), Nd.wfts l m → Nd.fitss l
  | [], _, _ => trivial
  | x :: r, m, h => by rw [Nd.wfts] at h; exact ⟨Nd.wft_fits x m h.1, Nd.wfts_fits r m h.2⟩
end
/-- A tree that was read: told, and read again, it is the tree. -/
structure Got (n : Nd) : Prop where
  sz : n.size ≤ 1000
  rt : n.right = true
  sh : n.shw
  bk : n.txt.length ≤ 250 → ∃ s, parseD prg true n.txt = .inr (n, s)
theorem got_parse {ere : Bool} {l : List UInt8} {n : Nd} {s : RxS} (h : parseD prg ere l = .inr (n, s)) : Got n := by
  have hw := parseD_wft h
  have hl := parseD_look h
  have hr := parseD_right h
  have hz : n.size ≤ 1000 := by
    unfold parseD at h
    split at h
    · cases h
    · next h250 =>
      have hk := chD_kept 12 _ (⟨Nat.zero_le _, Nat.zero_le _, Nat.zero_le _, Nat.zero_le _⟩ : Sane l ⟨0, 0, [], []⟩) _ _ h
      have h1 := hk.1.le
      have h2 := hk.2.2
      simp only at h2
      omega
  exact ⟨hz, hr, Nd.right_shw hr (by omega) (Nd.wft_fits n 12 hw), fun h => parse_back hw hl h⟩

set_option maxRecDepth 100000 in
set_option maxHeartbeats 4000000 in
theorem back_any (n : Nd) (v : Value) (w : World) (hg : Got n) (hE : Env w) (hP : P10 w) (hv : RN nob w n v) :
    Calls Tryz.prog 22 #[v] w fun e w' => e = .returned (.bool true) ∧ Fr nob w w' := by
  have HE1 := Lib.hid hE; have HE2 := Lib.hid hP; have HV := Lib.hid hv
  have hz := hg.sz
  have HS := Lib.hid (fun (m : Nd) (hm : m = n) (u : Value) w' (f : Fr nob w w') (hu : RN nob w' m u) => by
    have := show_Ere m u w' (hE.on f) (hP.on f) (by rw [hm]; omega) hu (fun _ => by rw [hm]; exact hg.sh)
    rw [hm, hg.rt, if_pos rfl] at this
    exact this)
  have hle := Nd.txt_le n hg.sh
  have HB := Lib.hid hg.bk
  have HP := Lib.hid (fun w' (f : Fr nob w w') (h : n.txt.length ≤ 250) => ere_parse n.txt w' (by omega) (hE.on f))
  have HSM := Lib.hid (fun (u : Value) w' (f : Fr nob w w') (hu : RN nob w' n u) => same_any n.size n n u v w' (Nat.le_refl _) (by omega) (by omega) hu (hv.on f))
  obtain ⟨T, hT⟩ : ∃ T, n.txt = T := ⟨_, rfl⟩
  rw [hT] at HS HB HP hle
  clear hE hP hg hT hv
  have HS0 := Lib.hid (HS.out n rfl v w (Fr.refl _ _) HV.out)
  have hTl : T.length ≤ 3000000 := by omega
  clear hle
  by_cases h250 : (250 : Int) < T.length
  · go_enter Tryz.func22, Tryz.ntmps22
    go_wp2_with fail
    refine HS0.out.mono ?_
    rintro e w1 ⟨rfl, f1⟩
    have F1 := Lib.hid f1; clear f1
    go_wp2
    go_ret
    exact ⟨rfl, F1.out⟩
  · obtain ⟨s', hpb⟩ := HB.out (by omega)
    have HPP := Lib.hid (fun w' f => by have := HP.out w' f (by omega); rw [hpb] at this; exact this)
    clear hpb HB HP
    go_enter Tryz.func22, Tryz.ntmps22
    go_wp2_with fail
    refine HS0.out.mono ?_
    rintro e w1 ⟨rfl, f1⟩
    have F1 := Lib.hid f1; clear f1
    go_wp2_with fail
    refine (HPP.out _ F1.out).mono ?_
    rintro e w2 ⟨f2, r, mv, rfl, hr, hm⟩
    obtain ⟨a, c, rfl⟩ : ∃ a c, mv = .slice a s'.marks.length c := ownsRow_slice hm
    have HR := Lib.hid hr
    have F2 := Lib.hid (F1.out.trans' f2); clear f2 hr hm
    go_wp2_with fail
    refine (HSM.out _ _ F2.out HR.out).mono ?_
    rintro e w3 ⟨b, rfl, hq, f3⟩
    obtain rfl := hq.2 rfl
    have F3 := Lib.hid (F2.out.trans' f3); have HR3 := Lib.hid (HR.out.on f3); clear f3 hq
    go_wp2_with fail
    refine (HS.out n rfl _ _ F3.out HR3.out).mono ?_
    rintro e w4 ⟨rfl, f4⟩
    have F4 := Lib.hid (F3.out.trans' f4); clear f4
    go_wp2
    go_ret
    exact ⟨rfl, F4.out⟩

set_option maxRecDepth 100000 in
set_option maxHeartbeats 4000000 in
theorem lawShowBack (l : List UInt8) (b : Bool) (w : World) (_ : l.length ≤ maxLen) (hE : Env6 w) :
    Calls Tryz.prog 7 #[.string ⟨l.toArray⟩, .bool b] w fun e w' => e = .returned (.bool true) ∧ Fr nob w w' := by
  have HE1 := Lib.hid hE.1; have HE2 := Lib.hid hE.2
  have HA := Lib.hid (awake6_any w hE.1 hE.2)
  clear hE
  by_cases h250 : (250 : Int) < l.length
  · go_enter Tryz.func7, Tryz.ntmps7
    go_wp2_with fail
    refine HA.out.mono ?_
    rintro e w1 ⟨rfl, f1⟩
    have F1 := Lib.hid f1; clear f1
    go_wp2_with fail
    refine (awake6_any w1 (HE1.out.on F1.out) (HE2.out.on F1.out)).mono ?_
    rintro e w2 ⟨rfl, f2⟩
    have F2 := Lib.hid (F1.out.trans' f2); clear f2
    go_wp2
    go_ret
    exact ⟨rfl, F2.out⟩
  have hl : l.length ≤ 250 := by omega
  have HB := Lib.hid (fun w' (f : Fr nob w w') => bre_parse l w' (by omega) (HE1.out.on f))
  have HX := Lib.hid (fun w' (f : Fr nob w w') => ere_parse l w' (by omega) (HE1.out.on f))
  rw [← parse_bre] at HB
  cases b with
  | false =>
    clear HX
    cases hp : parseD prg false l with
    | inl z =>
      obtain ⟨z, p⟩ := z
      have hz : ¬ z = 0 := parseD_err hp
      have hz' : (z == 0) = false := by simpa using hz
      rw [hp] at HB
      clear hp
      go_enter Tryz.func7, Tryz.ntmps7
      go_wp2_with fail
      refine HA.out.mono ?_
      rintro e w1 ⟨rfl, f1⟩
      have F1 := Lib.hid f1; clear f1
      go_wp2_with fail
      refine (HB.out _ F1.out).mono ?_
      rintro e w2 ⟨f2, rfl⟩
      have F2 := Lib.hid (F1.out.trans' f2); clear f2
      go_wp2
      go_ret
      exact ⟨rfl, F2.out⟩
    | inr z =>
      obtain ⟨n, s'⟩ := z
      have HG := Lib.hid (got_parse hp)
      rw [hp] at HB
      clear hp
      go_enter Tryz.func7, Tryz.ntmps7
      go_wp2_with fail
      refine HA.out.mono ?_
      rintro e w1 ⟨rfl, f1⟩
      have F1 := Lib.hid f1; clear f1
      go_wp2_with fail
      refine (HB.out _ F1.out).mono ?_
      rintro e w2 ⟨f2, i, y, mv, rfl, hr, hm⟩
      have HR := Lib.hid hr
      have F2 := Lib.hid (F1.out.trans' f2); clear f2 hr hm
      go_wp2_with fail
      refine (back_any n _ _ HG.out (HE1.out.on F2.out) (HE2.out.on F2.out) HR.out).mono ?_
      rintro e w3 ⟨rfl, f3⟩
      have F3 := Lib.hid (F2.out.trans' f3); clear f3
      go_wp2
      go_ret
      exact ⟨rfl, F3.out⟩
  | true =>
    -- what the basic reading gives is not looked at
    have HB' := Lib.hid (fun w' (f : Fr nob w w') => show Calls Tryz.prog 21 #[.string ⟨l.toArray⟩] w' (fun e w2 => ∃ a b c d, e = .returned (.tuple #[a, b, .int .i64 c, .int .i64 d]) ∧ Fr nob w' w2) from (HB.out w' f).mono (fun e w2 h => by
      obtain ⟨h1, h2⟩ := h
      cases hp : parseD prg false l with
      | inl z => rw [hp] at h2; exact ⟨_, _, _, _, h2, h1⟩
      | inr z => rw [hp] at h2; obtain ⟨i, y, mv, he, _⟩ := h2; exact ⟨_, _, _, _, he, h1⟩))
    clear HB
    cases hp : parseD prg true l with
    | inl z =>
      obtain ⟨z, p⟩ := z
      have hz : ¬ z = 0 := parseD_err hp
      have hz' : (z == 0) = false := by simpa using hz
      rw [hp] at HX
      clear hp
      go_enter Tryz.func7, Tryz.ntmps7
      go_wp2_with fail
      refine HA.out.mono ?_
      rintro e w1 ⟨rfl, f1⟩
      have F1 := Lib.hid f1; clear f1
      go_wp2_with fail
      refine (HB'.out _ F1.out).mono ?_
      rintro e w2 ⟨a, b, c, d, rfl, f2⟩
      have F2 := Lib.hid (F1.out.trans' f2); clear f2
      go_wp2_with fail
      refine (HX.out _ F2.out).mono ?_
      rintro e w3 ⟨f3, rfl⟩
      have F3 := Lib.hid (F2.out.trans' f3); clear f3
      go_wp2
      go_ret
      exact ⟨rfl, F3.out⟩
    | inr z =>
      obtain ⟨n, s'⟩ := z
      have HG := Lib.hid (got_parse hp)
      rw [hp] at HX
      clear hp
      go_enter Tryz.func7, Tryz.ntmps7
      go_wp2_with fail
      refine HA.out.mono ?_
      rintro e w1 ⟨rfl, f1⟩
      have F1 := Lib.hid f1; clear f1
      go_wp2_with fail
      refine (HB'.out _ F1.out).mono ?_
      rintro e w2 ⟨a, b, c, d, rfl, f2⟩
      have F2 := Lib.hid (F1.out.trans' f2); clear f2
      go_wp2_with fail
      refine (HX.out _ F2.out).mono ?_
      rintro e w3 ⟨f3, r, mv, rfl, hr, hm⟩
      have HR := Lib.hid hr
      have F3 := Lib.hid (F2.out.trans' f3); clear f3 hr hm
      go_wp2_with fail
      refine (back_any n _ _ HG.out (HE1.out.on F3.out) (HE2.out.on F3.out) HR.out).mono ?_
      rintro e w4 ⟨rfl, f4⟩
      have F4 := Lib.hid (F3.out.trans' f4); clear f4
      go_wp2
      go_ret
      exact ⟨rfl, F4.out⟩

namespace showBack
open Go.ChangeShapes Go.WideShapes Go.ChangeAt Go.RowKit
open Go.ChangeMaps (open_string shut_string)

theorem readable : ∀ t ∈ Tryz.f7.params.toList, Tryz.prog.readableRec t = true ∧ t < Tryz.prog.types.size := by
  rw [Tryz.params7]
  intro t ht
  simp only [List.mem_cons, List.not_mem_nil, or_false] at ht
  rcases ht with rfl | rfl
  all_goals exact ⟨by kernel_rfl, of_decide_eq_true (by kernel_rfl)⟩

set_option maxRecDepth 100000 in
theorem lifted (os : Os) (started : os.Started) (H : Type) (enc : TypeId × Value → H) :
    ReturnsInHanded {} Tryz.checked os 7 .any (fun w args => (Rows.showBackSpec.pre enc Tryz.prog Tryz.f7 [] false w args ∧ laidMetH Tryz.prog door.list1 w) ∧ sizedMet enc Tryz.prog Tryz.f7 (OpenSpec.ofChange Rows.showBackSpec) false w args)
      (Rows.showBackSpec.post enc Tryz.prog Tryz.f7 false true false false) := by
  refine returns_door (C := Tryz.checked) (X := fun w _ => laidMetH Tryz.prog door.list1 w) (fun _ _ _ hh h => h.of_heap hh) door.own started (by kernel_rfl) Tryz.func7
    (ChangeSpec.witness_shaped (enc := enc) (C := Tryz.checked) (os := os) (X := fun w _ => laidMetH Tryz.prog door.list1 w) false (World.doorLaid Tryz.prog 14 os) #[.string ByteArray.empty, .bool false] 8 rfl (World.shaped_of_RefB (by kernel_rfl) (by kernel_rfl)) (by kernel_rfl) (by kernel_rfl) (by kernel_rfl) (door.met os _)) ?_
  intro W base args ds gs before hval0 hW _ hL hsh
  have hval : ∀ (j : Nat) t v, Tryz.f7.params[j]? = some t → args[j]? = some v → Value.okWide Tryz.prog W .any base t v := hval0
  have hW' : DataW.Whole enc Tryz.prog Tryz.f7.params.toList Rows.showBackSpec.vars false W args.toList ds gs before := hW
  obtain ⟨p, q, hA0, hV, rfl, hfz, hnd⟩ := hW
  have hA : DataW.TrodAll enc Tryz.prog W 0 (fun _ => true) true Tryz.f7.params.toList args.toList ds p := hA0
  rw [Tryz.params7] at hA hval
  obtain ⟨v0, vs0, d0, ds0, p0, q0, hargs, rfl, rfl, h0, r0⟩ := trodAll_cons hA
  obtain ⟨v1, vs1, d1, ds1, p1, q1, rfl, rfl, rfl, h1, r1⟩ := trodAll_cons r0
  obtain ⟨rfl, rfl, rfl⟩ := trodAll_nil r1
  obtain rfl : args = #[v0, v1] := by cases args; simp_all
  obtain ⟨rfl, rfl⟩ := trodVars_none hV
  obtain ⟨s0, rfl, _, _, ws0⟩ := open_string Tryz.underlying9 (hval 0 9 v0 rfl rfl) h0
  obtain ⟨b1, rfl, _, _⟩ := open_bool Tryz.underlying4 (hval 1 4 v1 rfl rfl) h1
  have hs0 : s0 = ⟨s0.data.toList.toArray⟩ := by simp
  refine (show Calls Tryz.prog 7 #[.string s0, .bool b1] W _ from ?_).mono fun e W' h => h
  rw [hs0]
  refine (lawShowBack s0.data.toList b1 W (by unfold maxLen at ws0; exact ws0) (door.env hL hsh)).mono fun e W' ⟨he, hg⟩ => ?_
  subst he
  exact ⟨_, rfl, law_post rfl (by kernel_rfl) Tryz.underlying4 door.laidOut readable rfl hW' hg.below⟩

theorem over : Rows.showBackRow.holds Tryz.pinned (OpenSpec.ofChange Rows.showBackSpec) :=
  OpenClaim.holds_of_wide 7 Tryz.f7 rfl rfl rfl rfl rfl rfl rfl ⟨rfl, rfl, rfl, rfl, rfl⟩ rfl rfl rfl rfl rfl (by kernel_rfl) Tryz.func7 (by kernel_rfl)
    (of_decide_eq_true (by kernel_rfl)) (by unfold Func.isWrapper; first | (rw [if_pos (by decide +kernel)]; kernel_rfl) | (rw [if_neg (by decide +kernel)]; exact ⟨rfl, rfl⟩))
    (fun os started H enc _ => lifted os started H enc)

/-- THE STATEMENT: the tied card. -/
theorem proved : Rows.ShowBackCardSaid :=
  Claim7.holds_tied_plain_at .later [] [.data, .data, .data] true _ true over (fun _ h => by cases h) (by kernel_rfl) (fun _ h => by cases h) showBack_row_tie rfl ⟨rfl, rfl⟩ (by kernel_rfl) rfl
    (fun f fn hf hfn => by
      obtain rfl : f = 7 := (Option.some.inj ((show Tryz.prog.funcNamed "placket/placketlaw06.ShowBack" = some 7 by kernel_rfl).symm.trans hf)).symm
      obtain rfl : fn = Tryz.f7 := (Option.some.inj (Tryz.func7.symm.trans hfn)).symm
      exact ⟨by kernel_rfl, fun j t ht => by
        rw [Tryz.params7] at ht
        have hm : t ∈ [9, 4] := by
          have := Array.mem_of_getElem? ht
          simpa using this
        exact List.all_eq_true.1 (show ([9, 4] : List TypeId).all (fun t => !Tryz.prog.wantsStandIn t) = true by kernel_rfl) t hm |> fun h => by show Tryz.prog.wantsStandIn t = false; simpa using h⟩)
    (by kernel_rfl)
#print axioms proved
end showBack

end Go.Proofs.YtlchaocpejfikaaGreatDoor
