/-
  Merged texts of this claim: EreD, EreE, EreF.
-/
import Derived.Test.YtmoeboknelnaoaaGreatDoorM14
import Derived.Test.YtmoeboknelnaoaaGreatDoorM16
import Derived.Test.YtmoeboknelnaoaaGreatDoorM23

/-
  Walk of package ere: escape.
-/
namespace Go.Proofs.YtmoeboknelnaoaaGreatDoor
open Go.RowKit

theorem encode_small (b : UInt8) (hb : b.toNat < 128) : Utf8.encode (b.toNat : Int) = ⟨#[b]⟩ := by
  have hv : Utf8.valid (b.toNat : Int) = true := by unfold Utf8.valid; simp; omega
  unfold Utf8.encode
  simp only [hv, if_true, Int.toNat_natCast]
  rw [if_pos hb]
  simp
theorem run_forIn_runes {P : Program} {w : World} (f : Value → ByteArray → Sem (ForInStep ByteArray)) (hf : ∀ (n : Int) (r : ByteArray), (f (.int .i32 n) r).run P w = .ok (.yield (r ++ Utf8.encode n)) w) :
    ∀ (bs : List UInt8) (s : ByteArray), (∀ b ∈ bs, b.toNat < 128) → (forIn (runes bs) s f).run P w = .ok ⟨s.data ++ bs.toArray⟩ w
  | [], s, _ => by
    have : (⟨s.data ++ #[]⟩ : ByteArray) = s := by apply ByteArray.ext; simp
    simp [runes, Sem.run_pure, this]
  | b :: bs, s, h => by
    simp only [runes, List.map_cons, List.forIn_cons, Sem.run_bind, hf, Result.andThen]
    rw [encode_small b (h b (by simp))]
    have := run_forIn_runes f hf bs (s ++ ⟨#[b]⟩) (fun x hx => h x (by simp [hx]))
    rw [show (forIn (List.map (fun c : UInt8 => Value.int .i32 (c.toNat : Int)) bs) (s ++ ⟨#[b]⟩) f) = forIn (runes bs) (s ++ ⟨#[b]⟩) f from rfl, this]
    congr 1
    apply ByteArray.ext
    simp
theorem run_conv_runes {P : Program} {src dst e : TypeId} (hs : P.underlying src = some (.slice e)) (he : P.underlying e = some (.int .i32)) (hd : P.underlying dst = some .string) (a : Addr) (cap : Nat) (bs : List UInt8) (hb : ∀ b ∈ bs, b.toNat < 128) (W : World)
    (hc : ∀ j v, (runes bs)[j]? = some v → W.cell? (a.add j) = some v) :
    (convert src dst (.slice (some a) bs.length cap)).run P W = .ok (.string ⟨bs.toArray⟩) W := by
  have hl := run_loadCells_list (P := P) W a (runes bs) hc
  rw [show (runes bs).length = bs.length from by simp [runes]] at hl
  rw [show (convert src dst (.slice (some a) bs.length cap)).run P W = (Conv.runesToString (.slice (some a) bs.length cap)).run P W from by simp [convert, run_underlying hs, run_underlying hd, run_underlying he]]
  unfold Conv.runesToString
  simp only [Sem.run_bind, hl, Result.andThen, List.forIn_toArray]
  rw [run_forIn_runes _ (by intro n r; simp [Sem.run_pure]) bs _ hb]
  simp [Sem.run_pure]
theorem run_conv_runes2 (c : UInt8) (hc : c.toNat < 128) (g : Nat) (W : World) {T : TypeId} (hb : W.heap[g]? = some (.cells #[.int .i32 92, .int .i32 (c.toNat : Int)] T (0, 0))) :
    (convert 176 9 (.slice (some ⟨g, 0, none⟩) 2 2)).run Tryz.prog W = .ok (.string ⟨#[92, c]⟩) W := by
  refine run_conv_runes Tryz.underlying176 Tryz.underlying21 Tryz.underlying9 _ 2 [92, c] (by intro b h; simp at h; rcases h with rfl | rfl; decide; exact hc) W ?_
  intro j v hj
  match j, hj with
  | 0, hj => simp [runes] at hj; subst hj; exact cell_at hb rfl
  | 1, hj => simp [runes] at hj; subst hj; exact cell_at hb rfl

section
variable {b : Nat} {l : List UInt8} {s : ES} {S : Nat → Prop} {sv : Value} {m : Nat} {mv v' : Value} {w W0 w3 : World}
theorem Er.pushM (h : Er b l s S sv m mv w) (f : Fr nob w W0) (hap : Appd 1 mv v' W0 w3) {t : List UInt8}
    (hown : w3.ownsRow 0 79 2 v' (s.r.marks.length + 1) (mkC s.r.marks ++ [.int .i64 s.r.at_, .string ⟨t.toArray⟩])) :
    (w3.cell? ⟨b, 5, none⟩ = some mv ∧ w3.frozen? ⟨b, 5, none⟩ = false) ∧ Erd b l (s.mark t) (Plus S v') (w3.setCell ⟨b, 5, none⟩ v') ∧ Stp S w (Plus S v') (w3.setCell ⟨b, 5, none⟩ v') := by
  have h0 := h.on f
  have hblk := hap.fr.heap h0.blk (fun e => (h.nm b e).1 rfl)
  have hsz := f.size
  have hb := lt_heap h.blk
  have hm := h.mp.lt
  have hst := (Fr.refl (fun k => k = b) w3).setCell (p := ⟨b, 5, none⟩) (fun _ => rfl) v'
  have hnew : ∀ k, v'.ownBlock = some k → (k ≠ b ∧ k ≠ m) ∧ ∀ j, sv.ownBlock = some j → k ≠ j := fun k e => by
    rcases hap.old k e with h1 | h1
    · obtain ⟨n1, n2, n3⟩ := h.nm k h1
      exact ⟨⟨n1, n2⟩, fun j hj e => (h.ns j hj).2 (e ▸ n3)⟩
    · exact ⟨⟨by omega, by omega⟩, fun j hj e => by have := (h.ns j hj).1; omega⟩
  have hsg := ownsRow_fr h0.sg hap.fr (fun k hk e => (h.ns k hk).2 (h.nm k e).2.2)
  have hmp := h0.mp.fr hap.fr (fun e => (h.nm m e).2.1 rfl)
  refine ⟨⟨cell_at hblk rfl, unfrozen_at hblk 5⟩, ⟨sv, m, v', by have := heap_setCell_at hblk 5 v'; simpa [RxS.mark, ES.mark] using this, ownsRow_fr hsg hst (fun k hk e => (h.ns k hk).2 (e ▸ h.me)), hmp.fr hst (fun e => h.bm e.symm), ?_, fun k hk => ⟨(hnew k hk).1.1, (hnew k hk).1.2, .inr hk⟩, h.bm, fun k hk => ⟨(h.ns k hk).1, fun x => x.elim (h.ns k hk).2 (fun y => (hnew k y).2 k hk rfl)⟩, .inl h.me, .inl h.mm, h.ok⟩, ?_, ?_, ?_⟩
  · have := ownsRow_fr hown hst (fun k hk e => (hnew k hk).1.1 e)
    unfold OwM
    simp only [ES.mark, RxS.mark, List.length_append, List.length_singleton, mkC_append]
    exact this
  · exact (f.any.trans (hap.fr.mono (T := S) fun k _ hk => (h.nm k hk).2.2) (fun _ _ x => x)).setCell (p := ⟨b, 5, none⟩) (fun _ => h.me) v'
  · intro k hk hx
    rcases hx with hx | hx
    · exact hx
    · rcases hap.old k hx with h1 | h1
      · exact (h.nm k h1).2.2
      · omega
  · intro hl k hk
    have hz : (w3.setCell ⟨b, 5, none⟩ v').heap.size = w3.heap.size := by simp [World.setCell]
    rw [hz]
    rcases hk with hk | hk
    · have := hl k hk; have := hap.fr.size; omega
    · exact own_lt hown k hk
end

/-- What a reading function leaves. -/
def OutX (b : Nat) (l : List UInt8) (S O : Nat → Prop) (w : World) (q : Nd × ES) (x : Ending) (w' : World) : Prop :=
  ∃ v S', x = .returned v ∧ RN (SO S' O) w' q.1 v ∧ Erd b l q.2 S' w' ∧ Stp S w S' w'
theorem mrkX_cases {c : UInt8} (h : mrkX c = true) : c = 116 ∨ c = 119 ∨ c = 87 ∨ c = 115 ∨ c = 83 ∨ c = 49 ∨ c = 50 ∨ c = 51 ∨ c = 52 ∨ c = 53 ∨ c = 54 ∨ c = 55 ∨ c = 56 ∨ c = 57 := by
  unfold mrkX at h
  simp only [Bool.or_eq_true, beq_iff_eq, Bool.and_eq_true, decide_eq_true_eq] at h
  rcases h with h | h | h | h | h | ⟨h1, h2⟩
  · simp [h]
  · simp [h]
  · simp [h]
  · simp [h]
  · simp [h]
  · have : ∀ n : Nat, 49 ≤ n → n ≤ 57 → n = 49 ∨ n = 50 ∨ n = 51 ∨ n = 52 ∨ n = 53 ∨ n = 54 ∨ n = 55 ∨ n = 56 ∨ n = 57 := fun n _ _ => by omega
    have key : ∀ d : UInt8, c.toNat = d.toNat → c = d := fun d e => UInt8.toNat_inj.1 e
    rcases this c.toNat h1 h2 with e | e | e | e | e | e | e | e | e
    · have := key 49 e; simp [this]
    · have := key 50 e; simp [this]
    · have := key 51 e; simp [this]
    · have := key 52 e; simp [this]
    · have := key 53 e; simp [this]
    · have := key 54 e; simp [this]
    · have := key 55 e; simp [this]
    · have := key 56 e; simp [this]
    · have := key 57 e; simp [this]

set_option maxRecDepth 100000 in
set_option maxHeartbeats 4000000 in
theorem er_escape (b : Nat) (l : List UInt8) (s : ES) (S O : Nat → Prop) (w : World) (hl : l.length ≤ 100000) (ha : s.r.at_ < l.length) (hs : Sane l s.r) (hlt : ∀ k, S k → k < w.heap.size) (h : Erd b l s S w) :
    Calls Tryz.prog 143 #[.pointer (some ⟨b, 0, none⟩)] w (OutX b l S O w (escX l s)) := by
  obtain ⟨R, hR⟩ : ∃ R, escX l s = R := ⟨_, rfl⟩
  rw [hR]
  have hb1 := fun w' (f : Fr nob w w') => er_behind b l s S 1 w' hl (by omega) (by omega) (h.on f)
  have HH := Lib.hid h
  obtain ⟨sv, m, mv, hE⟩ := h
  have rr := rule8 hE.blk
  have HE := Lib.hid hE; have HLT := Lib.hid hlt; have HS := Lib.hid hs
  unfold escX at hR
  cases hc : l[s.r.at_ + 1]? with
  | none =>
    rw [hc] at hR hb1
    simp only at hR
    subst hR
    have HB := Lib.hid hb1
    clear hE hlt hs hb1 hc
    go_enter Tryz.func143, Tryz.ntmps143
    go_wp2_with fail
    refine region_fr 6 (by kernel_rfl) (by kernel_rfl) ?_
    simp only [List.take_succ_cons, List.take_zero, List.drop_succ_cons, List.drop_zero]
    repeat (quiet_step ((with_reducible exact calls_fr (HB.out _ (grown_fr _ _ _)))))
    refine wpQuiet_nil ?_
    intro w1 f1
    have hf := er_fail b l s S 11 s.r.at_ w1 hl (by decide) (HH.out.on f1)
    have HF := Lib.hid hf; have F1 := Lib.hid f1; clear hf f1
    go_wp2_with fail
    refine HF.out.mono ?_
    rintro e w2 ⟨rfl, e2, t2⟩
    have E2 := Lib.hid e2; have T2 := Lib.hid t2; clear e2 t2
    go_wp2
    go_ret
    exact ⟨.nilIface, S, rfl, by rw [RN], E2.out, (Stp.of F1.out).trans T2.out⟩
  | some c =>
    rw [hc] at hR hb1
    simp only at hR
    have hlt1 := getE_lt hc
    have HB := Lib.hid hb1
    clear hE hlt hb1 hc
    go_enter Tryz.func143, Tryz.ntmps143
    go_wp2_with fail
    refine region_fr 6 (by kernel_rfl) (by kernel_rfl) ?_
    simp only [List.take_succ_cons, List.take_zero, List.drop_succ_cons, List.drop_zero]
    repeat (quiet_step ((with_reducible exact calls_fr (HB.out _ (grown_fr _ _ _)))))
    refine wpQuiet_nil ?_
    intro w1 f1
    have hcb := c.toNat_lt
    have hne : ¬ (c.toNat : Int) = -1 := by omega
    have hE1 := HE.out.on f1
    have F1 := Lib.hid f1; have HE1 := Lib.hid hE1; clear f1 hE1 rr
    simp only [rnX]
    go_upto_block 0 with (fail)
    go_cut [] (fun w' => ∃ S', Erd b l (if mrkX c then s.mark [92, c] else s) S' w' ∧ Stp S w1 S' w')
    case first =>
      go_upto_if 20 with (fail)
      go_cut [20] (fun v w' => v = .bool (mrkX c) ∧ w1 = w')
      case first =>
        cases hm : mrkX c with
        | true =>
          have hcs := mrkX_cases hm
          have HM := Lib.hid hm
          clear hm
          -- MARKS
          rcases hcs with h | h | h | h | h | h | h | h | h | h | h | h | h | h
          · have n0 : ((c.toNat : Int) == 116) = true := by rw [h]; rfl
            clear h
            go_wp2
            go_meet
            case rel => exact ⟨by rw [HM.out]; rw [n0], rfl⟩
          · have n0 : ((c.toNat : Int) == 116) = false := by rw [h]; rfl
            have n1 : ((c.toNat : Int) == 119) = true := by rw [h]; rfl
            clear h
            go_wp2
            go_meet
            case rel => exact ⟨by rw [HM.out], rfl⟩
          · have n0 : ((c.toNat : Int) == 116) = false := by rw [h]; rfl
            have n1 : ((c.toNat : Int) == 119) = false := by rw [h]; rfl
            have n2 : ((c.toNat : Int) == 87) = true := by rw [h]; rfl
            clear h
            go_wp2
            go_meet
            case rel => exact ⟨by rw [HM.out], rfl⟩
          · have n0 : ((c.toNat : Int) == 116) = false := by rw [h]; rfl
            have n1 : ((c.toNat : Int) == 119) = false := by rw [h]; rfl
            have n2 : ((c.toNat : Int) == 87) = false := by rw [h]; rfl
            have n3 : ((c.toNat : Int) == 115) = true := by rw [h]; rfl
            clear h
            go_wp2
            go_meet
            case rel => exact ⟨by rw [HM.out], rfl⟩
          · have n0 : ((c.toNat : Int) == 116) = false := by rw [h]; rfl
            have n1 : ((c.toNat : Int) == 119) = false := by rw [h]; rfl
            have n2 : ((c.toNat : Int) == 87) = false := by rw [h]; rfl
            have n3 : ((c.toNat : Int) == 115) = false := by rw [h]; rfl
            have n4 : ((c.toNat : Int) == 83) = true := by rw [h]; rfl
            clear h
            go_wp2
            go_meet
            case rel => exact ⟨by rw [HM.out], rfl⟩
          · have n0 : ((c.toNat : Int) == 116) = false := by rw [h]; rfl
            have n1 : ((c.toNat : Int) == 119) = false := by rw [h]; rfl
            have n2 : ((c.toNat : Int) == 87) = false := by rw [h]; rfl
            have n3 : ((c.toNat : Int) == 115) = false := by rw [h]; rfl
            have n4 : ((c.toNat : Int) == 83) = false := by rw [h]; rfl
            have n5 : ((c.toNat : Int) == 49) = true := by rw [h]; rfl
            clear h
            go_wp2
            go_meet
            case rel => exact ⟨by rw [HM.out], rfl⟩
          · have n0 : ((c.toNat : Int) == 116) = false := by rw [h]; rfl
            have n1 : ((c.toNat : Int) == 119) = false := by rw [h]; rfl
            have n2 : ((c.toNat : Int) == 87) = false := by rw [h]; rfl
            have n3 : ((c.toNat : Int) == 115) = false := by rw [h]; rfl
            have n4 : ((c.toNat : Int) == 83) = false := by rw [h]; rfl
            have n5 : ((c.toNat : Int) == 49) = false := by rw [h]; rfl
            have n6 : ((c.toNat : Int) == 50) = true := by rw [h]; rfl
            clear h
            go_wp2
            go_meet
            case rel => exact ⟨by rw [HM.out], rfl⟩
          · have n0 : ((c.toNat : Int) == 116) = false := by rw [h]; rfl
            have n1 : ((c.toNat : Int) == 119) = false := by rw [h]; rfl
            have n2 : ((c.toNat : Int) == 87) = false := by rw [h]; rfl
            have n3 : ((c.toNat : Int) == 115) = false := by rw [h]; rfl
            have n4 : ((c.toNat : Int) == 83) = false := by rw [h]; rfl
            have n5 : ((c.toNat : Int) == 49) = false := by rw [h]; rfl
            have n6 : ((c.toNat : Int) == 50) = false := by rw [h]; rfl
            have n7 : ((c.toNat : Int) == 51) = true := by rw [h]; rfl
            clear h
            go_wp2
            go_meet
            case rel => exact ⟨by rw [HM.out], rfl⟩
          · have n0 : ((c.toNat : Int) == 116) = false := by rw [h]; rfl
            have n1 : ((c.toNat : Int) == 119) = false := by rw [h]; rfl
            have n2 : ((c.toNat : Int) == 87) = false := by rw [h]; rfl
            have n3 : ((c.toNat : Int) == 115) = false := by rw [h]; rfl
            have n4 : ((c.toNat : Int) == 83) = false := by rw [h]; rfl
            have n5 : ((c.toNat : Int) == 49) = false := by rw [h]; rfl
            have n6 : ((c.toNat : Int) == 50) = false := by rw [h]; rfl
            have n7 : ((c.toNat : Int) == 51) = false := by rw [h]; rfl
            have n8 : ((c.toNat : Int) == 52) = true := by rw [h]; rfl
            clear h
            go_wp2
            go_meet
            case rel => exact ⟨by rw [HM.out], rfl⟩
          · have n0 : ((c.toNat : Int) == 116) = false := by rw [h]; rfl
            have n1 : ((c.toNat : Int) == 119) = false := by rw [h]; rfl
            have n2 : ((c.toNat : Int) == 87) = false := by rw [h]; rfl
            have n3 : ((c.toNat : Int) == 115) = false := by rw [h]; rfl
            have n4 : ((c.toNat : Int) == 83) = false := by rw [h]; rfl
            have n5 : ((c.toNat : Int) == 49) = false := by rw [h]; rfl
            have n6 : ((c.toNat : Int) == 50) = false := by rw [h]; rfl
            have n7 : ((c.toNat : Int) == 51) = false := by rw [h]; rfl
            have n8 : ((c.toNat : Int) == 52) = false := by rw [h]; rfl
            have n9 : ((c.toNat : Int) == 53) = true := by rw [h]; rfl
            clear h
            go_wp2
            go_meet
            case rel => exact ⟨by rw [HM.out], rfl⟩
          · have n0 : ((c.toNat : Int) == 116) = false := by rw [h]; rfl
            have n1 : ((c.toNat : Int) == 119) = false := by rw [h]; rfl
            have n2 : ((c.toNat : Int) == 87) = false := by rw [h]; rfl
            have n3 : ((c.toNat : Int) == 115) = false := by rw [h]; rfl
            have n4 : ((c.toNat : Int) == 83) = false := by rw [h]; rfl
            have n5 : ((c.toNat : Int) == 49) = false := by rw [h]; rfl
            have n6 : ((c.toNat : Int) == 50) = false := by rw [h]; rfl
            have n7 : ((c.toNat : Int) == 51) = false := by rw [h]; rfl
            have n8 : ((c.toNat : Int) == 52) = false := by rw [h]; rfl
            have n9 : ((c.toNat : Int) == 53) = false := by rw [h]; rfl
            have n10 : ((c.toNat : Int) == 54) = true := by rw [h]; rfl
            clear h
            go_wp2
            go_meet
            case rel => exact ⟨by rw [HM.out], rfl⟩
          · have n0 : ((c.toNat : Int) == 116) = false := by rw [h]; rfl
            have n1 : ((c.toNat : Int) == 119) = false := by rw [h]; rfl
            have n2 : ((c.toNat : Int) == 87) = false := by rw [h]; rfl
            have n3 : ((c.toNat : Int) == 115) = false := by rw [h]; rfl
            have n4 : ((c.toNat : Int) == 83) = false := by rw [h]; rfl
            have n5 : ((c.toNat : Int) == 49) = false := by rw [h]; rfl
            have n6 : ((c.toNat : Int) == 50) = false := by rw [h]; rfl
            have n7 : ((c.toNat : Int) == 51) = false := by rw [h]; rfl
            have n8 : ((c.toNat : Int) == 52) = false := by rw [h]; rfl
            have n9 : ((c.toNat : Int) == 53) = false := by rw [h]; rfl
            have n10 : ((c.toNat : Int) == 54) = false := by rw [h]; rfl
            have n11 : ((c.toNat : Int) == 55) = true := by rw [h]; rfl
            clear h
            go_wp2
            go_meet
            case rel => exact ⟨by rw [HM.out], rfl⟩
          · have n0 : ((c.toNat : Int) == 116) = false := by rw [h]; rfl
            have n1 : ((c.toNat : Int) == 119) = false := by rw [h]; rfl
            have n2 : ((c.toNat : Int) == 87) = false := by rw [h]; rfl
            have n3 : ((c.toNat : Int) == 115) = false := by rw [h]; rfl
            have n4 : ((c.toNat : Int) == 83) = false := by rw [h]; rfl
            have n5 : ((c.toNat : Int) == 49) = false := by rw [h]; rfl
            have n6 : ((c.toNat : Int) == 50) = false := by rw [h]; rfl
            have n7 : ((c.toNat : Int) == 51) = false := by rw [h]; rfl
            have n8 : ((c.toNat : Int) == 52) = false := by rw [h]; rfl
            have n9 : ((c.toNat : Int) == 53) = false := by rw [h]; rfl
            have n10 : ((c.toNat : Int) == 54) = false := by rw [h]; rfl
            have n11 : ((c.toNat : Int) == 55) = false := by rw [h]; rfl
            have n12 : ((c.toNat : Int) == 56) = true := by rw [h]; rfl
            clear h
            go_wp2
            go_meet
            case rel => exact ⟨by rw [HM.out], rfl⟩
          · have n0 : ((c.toNat : Int) == 116) = false := by rw [h]; rfl
            have n1 : ((c.toNat : Int) == 119) = false := by rw [h]; rfl
            have n2 : ((c.toNat : Int) == 87) = false := by rw [h]; rfl
            have n3 : ((c.toNat : Int) == 115) = false := by rw [h]; rfl
            have n4 : ((c.toNat : Int) == 83) = false := by rw [h]; rfl
            have n5 : ((c.toNat : Int) == 49) = false := by rw [h]; rfl
            have n6 : ((c.toNat : Int) == 50) = false := by rw [h]; rfl
            have n7 : ((c.toNat : Int) == 51) = false := by rw [h]; rfl
            have n8 : ((c.toNat : Int) == 52) = false := by rw [h]; rfl
            have n9 : ((c.toNat : Int) == 53) = false := by rw [h]; rfl
            have n10 : ((c.toNat : Int) == 54) = false := by rw [h]; rfl
            have n11 : ((c.toNat : Int) == 55) = false := by rw [h]; rfl
            have n12 : ((c.toNat : Int) == 56) = false := by rw [h]; rfl
            have n13 : ((c.toNat : Int) == 57) = true := by rw [h]; rfl
            clear h
            go_wp2
            go_meet
            case rel => exact ⟨by rw [HM.out], rfl⟩
          -- MARKS END
        | false =>
          have n : ∀ d : UInt8, mrkX d = true → ((c.toNat : Int) == d.toNat) = false := fun d hd => tb_ne fun e => by rw [e, hd] at hm; cases hm
          have n0 : ((c.toNat : Int) == 116) = false := n 116 rfl
          have n1 : ((c.toNat : Int) == 119) = false := n 119 rfl
          have n2 : ((c.toNat : Int) == 87) = false := n 87 rfl
          have n3 : ((c.toNat : Int) == 115) = false := n 115 rfl
          have n4 : ((c.toNat : Int) == 83) = false := n 83 rfl
          have n5 : ((c.toNat : Int) == 49) = false := n 49 rfl
          have n6 : ((c.toNat : Int) == 50) = false := n 50 rfl
          have n7 : ((c.toNat : Int) == 51) = false := n 51 rfl
          have n8 : ((c.toNat : Int) == 52) = false := n 52 rfl
          have n9 : ((c.toNat : Int) == 53) = false := n 53 rfl
          have n10 : ((c.toNat : Int) == 54) = false := n 54 rfl
          have n11 : ((c.toNat : Int) == 55) = false := n 55 rfl
          have n12 : ((c.toNat : Int) == 56) = false := n 56 rfl
          have n13 : ((c.toNat : Int) == 57) = false := n 57 rfl
          have HM := Lib.hid hm
          clear n hm
          go_wp2
          go_meet
          case rel => exact ⟨by rw [HM.out], rfl⟩
      case rest =>
        obtain ⟨rfl, rfl⟩ := hcut
        cases hm : mrkX c with
        | true =>
          have rr1 := rule8 HE1.out.blk
          obtain ⟨am, cm, hmv⟩ := ownsRow_slice HE1.out.ma
          subst hmv
          obtain ⟨i0, hi, hz0, hz1, hz2⟩ := info_parts info_mark
          have hcs := mrkX_cases hm
          have hc128 : c.toNat < 128 := by rcases hcs with rfl | rfl | rfl | rfl | rfl | rfl | rfl | rfl | rfl | rfl | rfl | rfl | rfl | rfl <;> decide
          have hcv0 : ∀ W : World, W.heap[w1.heap.size]? = some (.cells #[.int .i32 92, .int .i32 (c.toNat : Int)] 21 (0, 0)) → (convert 176 9 (.slice (some ⟨w1.heap.size, 0, none⟩) 2 2)).run Tryz.prog W = .ok (.string ⟨#[92, c]⟩) W := fun W hW => run_conv_runes2 c hc128 _ W hW
          have hcv1 := hcv0 (w1.alloc (.cells #[.int .i32 92, .int .i32 (c.toNat : Int)] 21)).drew (newAt0 w1 _)
          have hcv2 := hcv0 (w1.drew.alloc (.cells #[.int .i32 92, .int .i32 (c.toNat : Int)] 21)) (newAt0 w1.drew _)
          have r5 : ∀ W, Fr nob w1 W → W.cell? ⟨b, 5, none⟩ = some (.slice am s.r.marks.length cm) := fun W f => (rr1 W f).1.2.2.2.2.2.1
          have r5b : ∀ X, (w1.alloc X).cell? ⟨b, 5, none⟩ = some (.slice am s.r.marks.length cm) := fun X => r5 _ ((Fr.refl nob w1).alloc X)
          have r5c : ∀ X Y, ((w1.alloc X).alloc Y).cell? ⟨b, 5, none⟩ = some (.slice am s.r.marks.length cm) := fun X Y => r5 _ (((Fr.refl nob w1).alloc X).alloc Y)
          have hmr := hs.mr
          have HM := Lib.hid hm
          clear hcv0 hc128 hm hcs
          go_wp2_with fail
          -- APPEND
          go_region_law (refine step_append_g rfl (.tmp 39) (.tmp 45) 30 rfl 79 i0 (.agg #[.int .i64 0, .string ByteArray.empty]) 2 24 Tryz.underlying30 hi hz0 hz1 hz2 rfl (by decide) (.slice am s.r.marks.length cm) s.r.marks.length (mkC s.r.marks) (by rfl) (ownsRow_fr HE1.out.ma (by repeat (first | exact Fr.refl _ _ | apply Fr.alloc | apply Fr.drew)) (fun _ _ x => x)) ⟨w1.heap.size + 1, 0, none⟩ 1 1 [.int .i64 s.r.at_, .string ⟨#[92, c]⟩] (by rfl) rfl (mk_news (t := [92, c]) (by first | exact newAt0 _ _ | exact heap_alloc_new' _ _ _ (by simp))) (mk_one (t := [92, c])) (by unfold maxLen; omega) (by omega) ?_; intro v' w3 hown' hap; obtain ⟨av, cv', rfl⟩ := ownsRow_slice hown'; obtain ⟨⟨pc, pf⟩, q1, q2⟩ := HE1.out.pushM (t := [92, c]) (by repeat (first | exact Fr.refl _ _ | apply Fr.alloc | apply Fr.drew)) hap hown'; have HQ := Lib.hid q1; have HR := Lib.hid q2; clear hown' hap q1 q2)
          -- APPEND END
          all_goals
            go_wp2
            go_meet
            case rel => rw [if_pos HM.out]; exact ⟨_, HQ.out, HR.out⟩
        | false =>
          have HM := Lib.hid hm
          clear hm
          go_wp2
          go_meet
          case rel => rw [if_neg (by rw [HM.out]; decide)]; exact ⟨S, ⟨sv, m, mv, HE1.out⟩, Stp.refl _ _⟩
    case rest =>
      obtain ⟨S1, h1, st1⟩ := hcut
      have hat1 : (if mrkX c then s.mark [92, c] else s).r.at_ = s.r.at_ := by cases mrkX c <;> rfl
      have hcl1 : (if mrkX c then s.mark [92, c] else s).r.closed = s.r.closed := by cases mrkX c <;> rfl
      obtain ⟨s1, hs1⟩ : ∃ s1, (if mrkX c then s.mark [92, c] else s) = s1 := ⟨_, rfl⟩
      rw [hs1] at hR h1 hat1 hcl1
      obtain ⟨sv1, m1, mv1, hE1⟩ := h1
      have st1' := (Stp.of F1.out).trans st1
      have hlt2 : ∀ k, S1 k → k < wc.heap.size := st1'.lt HLT.out
      have hE2 := hE1.turned 2 (.int .i64 ((s.r.at_ : Int) + 2)) (s1.go 2) (by simp [ES.go, RxS.go, hat1]) rfl rfl hE1.ok
      have st2 := st1'.trans (hE1.stp 2 (.int .i64 ((s.r.at_ : Int) + 2)))
      have rr1 := rule8 hE1.blk wc (Fr.refl nob wc)
      rw [hat1] at rr1
      obtain ⟨wD, hwD⟩ : ∃ wD, wD = wc.setCell ⟨b, 2, none⟩ (.int .i64 ((s.r.at_ : Int) + 2)) := ⟨_, rfl⟩
      rw [← hwD] at hE2 st2
      have hszD : wD.heap.size = wc.heap.size := by rw [hwD]; simp [World.setCell]
      have HD := Lib.hid hwD; have HE2 := Lib.hid hE2; have ST2 := Lib.hid st2; have HL2 := Lib.hid hlt2
      have rr2 := rule8 hE2.blk wD (Fr.refl nob wD)
      clear hE1 st1 st1' hwD hs1 hE2 st2 hlt2
      by_cases hd : 49 ≤ c.toNat ∧ c.toNat ≤ 57
      · rw [if_pos hd] at hR
        obtain ⟨hd1, hd2⟩ := hd
        have hd1I : (49 : Int) ≤ c.toNat := by omega
        have hd2I : (c.toNat : Int) ≤ 57 := by omega
        obtain ⟨n, hn⟩ : ∃ n, c.toNat - 48 = n := ⟨_, rfl⟩
        rw [hn] at hR
        have hnI : ((n : Nat) : Int) = (c.toNat : Int) - 48 := by omega
        have hw32 : IntKind.i32.wrap ((c.toNat : Int) - 48) = (c.toNat : Int) - 48 := IntWalk.i32_in _ (by omega)
        have hw64 : IntKind.i64.wrap ((c.toNat : Int) - 48) = (c.toNat : Int) - 48 := IntWalk.i64_in _ (by omega)
        have hlk := imap_look (P := Tryz.prog) (mty := 178) (kt := 3) (et := 3) Tryz.underlying178 Tryz.underlying3 (fun w => by kernel_rfl) HE2.out.mp n
        rw [show (s1.go 2).r.closed = s.r.closed from hcl1, hnI] at hlk
        cases hq : s.r.closed.contains n with
        | true =>
          rw [if_pos hq] at hR
          subst hR
          have hc0 : ¬ ((s.r.closed.count n : Nat) : Int) = 0 := by
            have : 0 < s.r.closed.count n := List.count_pos_iff.2 (by simpa using hq)
            omega
          obtain ⟨k, hk⟩ : ∃ k, s.r.closed.count n = k := ⟨_, rfl⟩
          rw [hk] at hlk hc0
          have HN := Lib.hid hnI
          clear hq hk hn hnI hd1 hd2
          go_wp2_with (with_reducible rw [← HD.out])
          go_ret
          refine ⟨.iface 102 (.agg #[.int .i64 ((c.toNat : Int) - 48)]), S1, rfl, ?_, ⟨_, _, _, HE2.out⟩, ST2.out⟩
          rw [← HN.out, RN]
        | false =>
          rw [if_neg (by rw [hq]; decide)] at hR
          subst hR
          have hc0 : s.r.closed.count n = 0 := List.count_eq_zero.2 (by simpa using hq)
          rw [hc0] at hlk
          have hf := er_fail b l (s1.go 2) S1 9 s.r.at_ wD hl (by decide) ⟨_, _, _, HE2.out⟩
          have HF := Lib.hid hf; clear hf
          have HN := Lib.hid hnI
          clear hq hc0 hn hnI hd1 hd2
          go_wp2_with (with_reducible rw [← HD.out])
          with_reducible refine HF.out.mono ?_
          rintro e w5 ⟨rfl, e5, t5⟩
          have E5 := Lib.hid e5; have T5 := Lib.hid (ST2.out.trans t5); clear e5 t5
          go_wp2
          go_ret
          refine ⟨.iface 102 (.agg #[.int .i64 ((c.toNat : Int) - 48)]), S1, rfl, ?_, E5.out, T5.out⟩
          rw [← HN.out, RN]
      · rw [if_neg hd] at hR
        have hd' : (c.toNat : Int) < 49 ∨ ((49 : Int) ≤ c.toNat ∧ ¬ (c.toNat : Int) ≤ 57) := by omega
        have hSE := er_set c wD
        have hR2 : ∃ u ok, setE c = (u, ok) ∧ ((ok = true ∧ (Nd.one u, s1.go 2) = R) ∨ (ok = false ∧ (Nd.one u, (s1.go 2).fail l 2 s.r.at_) = R)) := by
          unfold setE
          cases hb : escB c with
          | none => rw [hb] at hR; exact ⟨_, false, rfl, .inr ⟨rfl, hR⟩⟩
          | some q => obtain ⟨u, x⟩ := q; rw [hb] at hR; exact ⟨u, true, rfl, .inl ⟨rfl, hR⟩⟩
        obtain ⟨u, ok, hu, hR3⟩ := hR2
        rw [hu] at hSE
        have HSE := Lib.hid hSE
        clear hSE hR hu hd
        have hS1 : ∀ (w3 : World), Fr nob wD w3 → ¬ S1 w3.heap.size := fun w3 f hk => by have := HL2.out _ hk; have := f.size; omega
        have HS1 := Lib.hid hS1; clear hS1
        rcases hR3 with ⟨rfl, rfl⟩ | ⟨rfl, rfl⟩
        · rcases hd' with hd' | ⟨hd1, hd2⟩
          all_goals
            go_wp2_with (with_reducible rw [← HD.out])
            with_reducible refine HSE.out.mono ?_
            rintro e w3 ⟨rfl, f3⟩
            go_wp2
            go_ret
            exact ⟨.iface 93 (.agg #[.int .u64 u.a, .int .u64 u.b, .int .u64 u.c, .int .u64 u.d]), S1, rfl, by rw [RN]; rfl, ⟨_, _, _, HE2.out.on (f3.alloc _)⟩, ST2.out.trans (Stp.of (f3.alloc _))⟩
        · rcases hd' with hd' | ⟨hd1, hd2⟩
          all_goals
            go_wp2_with (with_reducible rw [← HD.out])
            with_reducible refine HSE.out.mono ?_
            rintro e w3 ⟨rfl, f3⟩
            obtain ⟨w4, hw4⟩ : ∃ w4, w4 = w3.alloc (.cells #[.int .u64 u.a, .int .u64 u.b, .int .u64 u.c, .int .u64 u.d] 91) := ⟨_, rfl⟩
            have f4 : Fr nob wD w4 := by rw [hw4]; exact f3.alloc _
            have hq4 : w4.heap[w3.heap.size]? = some (.cells #[.int .u64 u.a, .int .u64 u.b, .int .u64 u.c, .int .u64 u.d] 91 (0, 0)) := by rw [hw4]; exact newAt0 w3 _
            have hf := er_fail b l (s1.go 2) S1 2 s.r.at_ w4 hl (by decide) ⟨_, _, _, HE2.out.on f4⟩
            have hnS := HS1.out w3 f3
            have HF := Lib.hid hf; have H4 := Lib.hid hw4; have F4 := Lib.hid f4; have HQ4 := Lib.hid hq4
            clear hf hw4 f4 hq4 f3 rr2
            go_wp2_with (with_reducible rw [← H4.out])
            with_reducible refine HF.out.mono ?_
            rintro e w5 ⟨rfl, e5, t5⟩
            have hq5 := rule4 (t5.fr.heap HQ4.out hnS) w5 (Fr.refl nob w5)
            have E5 := Lib.hid e5; have T5 := Lib.hid ((ST2.out.trans (Stp.of F4.out)).trans t5); clear e5 t5
            go_wp2
            go_ret
            exact ⟨.iface 93 (.agg #[.int .u64 u.a, .int .u64 u.b, .int .u64 u.c, .int .u64 u.d]), S1, rfl, by rw [RN]; rfl, E5.out, T5.out⟩
end Go.Proofs.YtmoeboknelnaoaaGreatDoor

/-
  Walk of package ere: repeated. Printed by tools/eree.py.
-/
namespace Go.Proofs.YtmoeboknelnaoaaGreatDoor
open Go.RowKit

/-- The loop's relation. -/
def RepX (b : Nat) (l : List UInt8) (S O : Nat → Prop) (w : World) (F : Nd × ES) (n : Nat) (v : Value) (wr : World) : Prop :=
  ∃ s t S', RN (SO S' O) wr t v ∧ Erd b l s S' wr ∧ Stp S w S' wr ∧ l.length < n + s.r.at_ ∧ Sane l s.r ∧ (t ≠ .nil ∨ l[s.r.at_]? = none) ∧ repX l n s t = F
section
variable {l : List UInt8} {n : Nat} {s : ES} {t : Nd}
theorem repX_42 (h : l[s.r.at_]? = some 42) : repX l (n + 1) s t = repX l n (s.go 1) (.rep t 0 (-1)) := by rw [repX, if_pos h]
theorem repX_43 (h : l[s.r.at_]? = some 43) : repX l (n + 1) s t = repX l n (s.go 1) (.rep t 1 (-1)) := by rw [repX, if_neg (by rw [h]; decide), if_pos h]
theorem repX_63 (h : l[s.r.at_]? = some 63) : repX l (n + 1) s t = repX l n (s.go 1) (.rep t 0 1) := by rw [repX, if_neg (by rw [h]; decide), if_neg (by rw [h]; decide), if_pos h]
theorem repX_123 (h : l[s.r.at_]? = some 123) : repX l (n + 1) s t = if (itvX l (s.go 1)).2.2.1 then repX l n (itvX l (s.go 1)).2.2.2 (.rep t (itvX l (s.go 1)).1 (itvX l (s.go 1)).2.1) else (t, (itvX l (s.go 1)).2.2.2.fail l 7 s.r.at_) := by
  rw [repX, if_neg (by rw [h]; decide), if_neg (by rw [h]; decide), if_neg (by rw [h]; decide), if_pos h]
theorem repX_end (h1 : ¬ l[s.r.at_]? = some 42) (h2 : ¬ l[s.r.at_]? = some 43) (h3 : ¬ l[s.r.at_]? = some 63) (h4 : ¬ l[s.r.at_]? = some 123) : repX l (n + 1) s t = (t, s) := by
  rw [repX, if_neg h1, if_neg h2, if_neg h3, if_neg h4]
end

set_option maxRecDepth 100000 in
set_option maxHeartbeats 2000000 in
theorem er_repeated (b : Nat) (l : List UInt8) (s : ES) (t : Nd) (v : Value) (S O : Nat → Prop) (w : World) (hl : l.length ≤ 100000) (hs : Sane l s.r) (hnil : t ≠ .nil ∨ l[s.r.at_]? = none) (hv : RN (SO S O) w t v) (h : Erd b l s S w) :
    Calls Tryz.prog 121 #[.pointer (some ⟨b, 0, none⟩), v] w (OutX b l S O w (repX l (l.length + 1) s t)) := by
  obtain ⟨F, hF⟩ : ∃ F, repX l (l.length + 1) s t = F := ⟨_, rfl⟩
  rw [hF]
  have HF := Lib.hid hF; have HV := Lib.hid hv; have HH := Lib.hid h; have HS := Lib.hid hs; clear hF hv h hs
  go_enter Tryz.func121, Tryz.ntmps121
  go_wp2_with fail
  go_loopg [1] (l.length + 1) (fun n u wr => RepX b l S O w F n u wr)
  case atStart => exact ⟨s, t, S, HV.out, HH.out, Stp.refl _ _, by omega, HS.out, hnil, HF.out⟩
  case round =>
    clear HF HV HH HS hnil
    clear s t
    obtain ⟨s, t, S1, hv, hr, hst, hn, hs, hnil, hF⟩ := hrel
    have hle := hs.le
    obtain ⟨m, rfl⟩ : ∃ m, gk = m + 1 := ⟨gk - 1, by omega⟩
    have hN := er_next b l s S1 wr hl hle hr
    obtain ⟨sv, mm, mv, hE⟩ := hr
    have rr0 := rule8 hE.blk
    have HV := Lib.hid hv; have HE := Lib.hid hE; have HST := Lib.hid hst; have HF := Lib.hid hF; have HS := Lib.hid hs; have HN := Lib.hid hN
    clear hv hE hst hF hs hN
    by_cases h42 : l[s.r.at_]? = some 42
    · obtain ⟨vi, vy, rfl⟩ := HV.out.some (hnil.resolve_right (by rw [h42]; simp))
      clear hnil
      have hlt := getE_lt h42
      have hF := HF.out
      rw [repX_42 h42] at hF
      have HF2 := Lib.hid hF
      have n0 := (rnX_test l[s.r.at_]? 42 42 rfl).trans (decide_eq_true h42)
      obtain ⟨R, hR⟩ : ∃ R, rnX l[s.r.at_]? = R := ⟨_, rfl⟩
      rw [hR] at HN n0
      clear hF HF hR
      go_wp2_with fail
      with_reducible refine HN.out.mono ?_
      rintro e w1 ⟨rfl, f1⟩
      have h1 := HE.out.on f1
      have rr := rule8 h1.blk _ (Fr.refl _ _)
      have H1 := Lib.hid h1; have F1 := Lib.hid f1; clear h1 f1 rr0
      go_wp2
      go_roundg m
      case measure => omega
      case rel =>
        have hs5 := H1.out.stp 2 (.int .i64 ((s.r.at_ : Int) + 1))
        refine ⟨s.go 1, .rep t 0 (-1), S1, (((Stp.of F1.out).trans hs5).rn HV.out).rep _ _, ⟨_, _, _, H1.out.turned 2 _ _ (by simp [RxS.go, ES.go]) rfl rfl H1.out.ok⟩, (HST.out.trans (Stp.of F1.out)).trans hs5, ?_, ?_, ?_, HF2.out⟩
        · show l.length < m + (s.r.at_ + 1); omega
        · exact HS.out.goE hlt
        · exact .inl (by intro h; cases h)
    · by_cases h43 : l[s.r.at_]? = some 43
      · obtain ⟨vi, vy, rfl⟩ := HV.out.some (hnil.resolve_right (by rw [h43]; simp))
        clear hnil
        have hlt := getE_lt h43
        have hF := HF.out
        rw [repX_43 h43] at hF
        have HF2 := Lib.hid hF
        have n0 := (rnX_test l[s.r.at_]? 42 42 rfl).trans (decide_eq_false h42)
        have n1 := (rnX_test l[s.r.at_]? 43 43 rfl).trans (decide_eq_true h43)
        obtain ⟨R, hR⟩ : ∃ R, rnX l[s.r.at_]? = R := ⟨_, rfl⟩
        rw [hR] at HN n0 n1
        clear hF HF hR
        go_wp2_with fail
        with_reducible refine HN.out.mono ?_
        rintro e w1 ⟨rfl, f1⟩
        have h1 := HE.out.on f1
        have rr := rule8 h1.blk _ (Fr.refl _ _)
        have H1 := Lib.hid h1; have F1 := Lib.hid f1; clear h1 f1 rr0
        go_wp2
        go_roundg m
        case measure => omega
        case rel =>
          have hs5 := H1.out.stp 2 (.int .i64 ((s.r.at_ : Int) + 1))
          refine ⟨s.go 1, .rep t 1 (-1), S1, (((Stp.of F1.out).trans hs5).rn HV.out).rep _ _, ⟨_, _, _, H1.out.turned 2 _ _ (by simp [RxS.go, ES.go]) rfl rfl H1.out.ok⟩, (HST.out.trans (Stp.of F1.out)).trans hs5, ?_, ?_, ?_, HF2.out⟩
          · show l.length < m + (s.r.at_ + 1); omega
          · exact HS.out.goE hlt
          · exact .inl (by intro h; cases h)
      · by_cases h63 : l[s.r.at_]? = some 63
        · obtain ⟨vi, vy, rfl⟩ := HV.out.some (hnil.resolve_right (by rw [h63]; simp))
          clear hnil
          have hlt := getE_lt h63
          have hF := HF.out
          rw [repX_63 h63] at hF
          have HF2 := Lib.hid hF
          have n0 := (rnX_test l[s.r.at_]? 42 42 rfl).trans (decide_eq_false h42)
          have n1 := (rnX_test l[s.r.at_]? 43 43 rfl).trans (decide_eq_false h43)
          have n2 := (rnX_test l[s.r.at_]? 63 63 rfl).trans (decide_eq_true h63)
          obtain ⟨R, hR⟩ : ∃ R, rnX l[s.r.at_]? = R := ⟨_, rfl⟩
          rw [hR] at HN n0 n1 n2
          clear hF HF hR
          go_wp2_with fail
          with_reducible refine HN.out.mono ?_
          rintro e w1 ⟨rfl, f1⟩
          have h1 := HE.out.on f1
          have rr := rule8 h1.blk _ (Fr.refl _ _)
          have H1 := Lib.hid h1; have F1 := Lib.hid f1; clear h1 f1 rr0
          go_wp2
          go_roundg m
          case measure => omega
          case rel =>
            have hs5 := H1.out.stp 2 (.int .i64 ((s.r.at_ : Int) + 1))
            refine ⟨s.go 1, .rep t 0 1, S1, (((Stp.of F1.out).trans hs5).rn HV.out).rep _ _, ⟨_, _, _, H1.out.turned 2 _ _ (by simp [RxS.go, ES.go]) rfl rfl H1.out.ok⟩, (HST.out.trans (Stp.of F1.out)).trans hs5, ?_, ?_, ?_, HF2.out⟩
            · show l.length < m + (s.r.at_ + 1); omega
            · exact HS.out.goE hlt
            · exact .inl (by intro h; cases h)
        · by_cases h123 : l[s.r.at_]? = some 123
          · obtain ⟨vi, vy, rfl⟩ := HV.out.some (hnil.resolve_right (by rw [h123]; simp))
            clear hnil
            have hlt := getE_lt h123
            have hF := HF.out
            rw [repX_123 h123] at hF
            have n0 := (rnX_test l[s.r.at_]? 42 42 rfl).trans (decide_eq_false h42)
            have n1 := (rnX_test l[s.r.at_]? 43 43 rfl).trans (decide_eq_false h43)
            have n2 := (rnX_test l[s.r.at_]? 63 63 rfl).trans (decide_eq_false h63)
            have n3 := (rnX_test l[s.r.at_]? 123 123 rfl).trans (decide_eq_true h123)
            obtain ⟨R, hR⟩ : ∃ R, rnX l[s.r.at_]? = R := ⟨_, rfl⟩
            rw [hR] at HN n0 n1 n2 n3
            have h2 := HE.out
            clear HF hR
            go_wp2_with fail
            with_reducible refine HN.out.mono ?_
            rintro e w1 ⟨rfl, f1⟩
            have h1 := HE.out.on f1
            have rr := rule8 h1.blk _ (Fr.refl _ _)
            have hs5 := h1.stp 2 (.int .i64 ((s.r.at_ : Int) + 1))
            have h5 := h1.turned 2 (.int .i64 ((s.r.at_ : Int) + 1)) (s.go 1) (by simp [RxS.go, ES.go]) rfl rfl h1.ok
            obtain ⟨w2, hw2⟩ : ∃ w2, w2 = w1.setCell ⟨b, 2, none⟩ (.int .i64 ((s.r.at_ : Int) + 1)) := ⟨_, rfl⟩
            rw [← hw2] at hs5 h5
            have hI := er_interval b l (s.go 1) S1 w2 hl hlt ⟨_, _, _, h5⟩
            have hK := itvX_kept (l := l) (s := s.go 1) (HS.out.goE hlt)
            obtain ⟨mn, mx, ok, s2, hq⟩ : ∃ mn mx ok s2, itvX l (s.go 1) = (mn, mx, ok, s2) := ⟨_, _, _, _, rfl⟩
            rw [hq] at hI hF hK
            simp only at hI hF hK
            obtain ⟨k1, k2, k3⟩ := hK
            have k2 : s.r.at_ + 1 ≤ s2.r.at_ := k2
            have HI := Lib.hid hI; have HF2 := Lib.hid hF; have H2 := Lib.hid hw2; have T2 := Lib.hid ((Stp.of f1).trans hs5); have K1 := Lib.hid k1
            clear hI hF hw2 hs5 h1 h5 f1 rr0 h2 k1 k3 hq
            go_wp2_with (with_reducible rw [← H2.out])
            with_reducible refine HI.out.mono ?_
            rintro e w3 ⟨rfl, e3, t3⟩
            have T3 := Lib.hid (T2.out.trans t3)
            have E3 := Lib.hid e3
            have kle := K1.out.le
            clear t3 e3
            cases ok with
            | true =>
              have hF := HF2.out
              rw [if_pos rfl] at hF
              have HF3 := Lib.hid hF
              obtain ⟨sv3, m3, mv3, e3⟩ := E3.out
              have rr3 := rule8 e3.blk _ (Fr.refl _ _)
              have hs6 := e3.stp 2 (.int .i64 ((s2.r.at_ : Int) - 1))
              have h6 := e3.turned 2 (.int .i64 ((s2.r.at_ : Int) - 1)) (s2.to (s2.r.at_ - 1)) (by simp [RxS.to, ES.to]; omega) rfl rfl e3.ok
              have hs7 := h6.stp 2 (.int .i64 (s2.r.at_ : Int))
              have h7 := h6.turned 2 (.int .i64 (s2.r.at_ : Int)) s2 (by simp [RxS.to, ES.to]) rfl rfl e3.ok
              have rr6 := rule8 h6.blk _ (Fr.refl _ _)
              rw [show (((s2.to (s2.r.at_ - 1)).r.at_ : Nat) : Int) = (s2.r.at_ : Int) - 1 from by show (((s2.r.at_ - 1 : Nat)) : Int) = _; omega] at rr6
              have hadd : IntKind.i64.wrap ((s2.r.at_ : Int) - 1 + 1) = s2.r.at_ := by rw [IntWalk.i64_in _ (by omega)]; omega
              have hsub : IntKind.i64.wrap ((s2.r.at_ : Int) - 1) = (s2.r.at_ : Int) - 1 := IntWalk.i64_in _ (by omega)
              have H7 := Lib.hid h7; have T7 := Lib.hid ((T3.out.trans hs6).trans hs7)
              clear hF HF2 e3 hs6 h6 hs7 h7 rr
              go_wp2
              go_roundg m
              case measure => omega
              case rel =>
                refine ⟨s2, .rep t mn mx, S1, (T7.out.rn HV.out).rep _ _, ⟨_, _, _, H7.out⟩, HST.out.trans T7.out, ?_, K1.out, .inl (by intro h; cases h), HF3.out⟩
                omega
            | false =>
              have hF := HF2.out
              rw [if_neg (by decide)] at hF
              subst hF
              have hf := er_fail b l s2 S1 7 s.r.at_ w3 hl (by decide) E3.out
              have HFL := Lib.hid hf
              clear HF2 hf rr
              go_wp2_with fail
              with_reducible refine HFL.out.mono ?_
              rintro e w4 ⟨rfl, e4, t4⟩
              have E4 := Lib.hid e4; have T4 := Lib.hid (T3.out.trans t4); clear e4 t4
              go_wp2
              go_ret
              exact ⟨_, S1, rfl, T4.out.rn HV.out, E4.out, HST.out.trans T4.out⟩
          · have hF := HF.out
            rw [repX_end h42 h43 h63 h123] at hF
            subst hF
            have n0 := (rnX_test l[s.r.at_]? 42 42 rfl).trans (decide_eq_false h42)
            have n1 := (rnX_test l[s.r.at_]? 43 43 rfl).trans (decide_eq_false h43)
            have n2 := (rnX_test l[s.r.at_]? 63 63 rfl).trans (decide_eq_false h63)
            have n3 := (rnX_test l[s.r.at_]? 123 123 rfl).trans (decide_eq_false h123)
            obtain ⟨R, hR⟩ : ∃ R, rnX l[s.r.at_]? = R := ⟨_, rfl⟩
            rw [hR] at HN n0 n1 n2 n3
            clear HF hR
            go_wp2_with fail
            with_reducible refine HN.out.mono ?_
            rintro e w1 ⟨rfl, f1⟩
            have F1 := Lib.hid f1; clear f1 rr0
            go_wp2
            go_ret
            exact ⟨_, S1, rfl, (Stp.of F1.out).rn HV.out, ⟨_, _, _, HE.out.on F1.out⟩, HST.out.trans (Stp.of F1.out)⟩
end Go.Proofs.YtmoeboknelnaoaaGreatDoor

/-
  Walk of package ere: group.
-/
namespace Go.Proofs.YtmoeboknelnaoaaGreatDoor
open Go.RowKit

/-- What choice does at a depth. -/
def ChX (l : List UInt8) (W0 : World) (deep : Nat) (f : ES → Nd × ES) : Prop :=
  ∀ b s S (O : Nat → Prop) w, (∀ k, O k → k < w.heap.size) → Sane l s.r → Wd W0 S w → Erd b l s S w → Calls Tryz.prog 87 #[.pointer (some ⟨b, 0, none⟩), .int .i64 deep] w (OutX b l S O w (f s))
/-- What group does at a depth. -/
def GrX (l : List UInt8) (W0 : World) (deep : Nat) (C : Option (ES → Nd × ES)) : Prop :=
  ∀ b s S (O : Nat → Prop) w, (∀ k, O k → k < w.heap.size) → Sane l s.r → s.r.at_ < l.length → Wd W0 S w → Erd b l s S w → Calls Tryz.prog 142 #[.pointer (some ⟨b, 0, none⟩), .int .i64 deep] w (OutX b l S O w (groupX l C s))

theorem Er.close {b : Nat} {l : List UInt8} {s : ES} {S : Nat → Prop} {sv : Value} {m : Nat} {mv : Value} {w w' : World} {n : Nat} (h : Er b l s S sv m mv w) (hm : IMap w' m (s.r.closed ++ [n])) (f : Fr (fun k => k = m) w w') :
    Er b l ⟨{ s.r with closed := s.r.closed ++ [n] }, s.x⟩ S sv m mv w' :=
  ⟨f.heap h.blk (fun e => h.bm e), ownsRow_fr h.sg f (fun k hk e => (h.ns k hk).2 (e ▸ h.mm)), hm, ownsRow_fr h.ma f (fun k hk e => (h.nm k hk).2.1 e), h.nm, h.bm, h.ns, h.me, h.mm, h.ok⟩
theorem Er.closeStp {b : Nat} {l : List UInt8} {s : ES} {S : Nat → Prop} {sv : Value} {m : Nat} {mv : Value} {w w' : World} (h : Er b l s S sv m mv w) (f : Fr (fun k => k = m) w w') : Stp S w S w' :=
  ⟨f.mono (fun k _ e => e ▸ h.mm), fun _ _ x => x, fun hl k hk => Nat.lt_of_lt_of_le (hl k hk) f.size⟩

set_option maxRecDepth 100000 in
theorem er_group_deep (b : Nat) (l : List UInt8) (s : ES) (S O : Nat → Prop) (w : World) (hl : l.length ≤ 100000) (h : Erd b l s S w) :
    Calls Tryz.prog 142 #[.pointer (some ⟨b, 0, none⟩), .int .i64 12] w (OutX b l S O w (groupX l none s)) := by
  have hf := er_fail b l s S 4 s.r.at_ w hl (by decide) h
  obtain ⟨sv, m, mv, h⟩ := h
  have rr := rule8 h.blk w (Fr.refl nob w)
  have HF := Lib.hid hf; clear hf h
  go_enter Tryz.func142, Tryz.ntmps142
  go_wp2_with fail
  with_reducible refine HF.out.mono ?_
  rintro e w1 ⟨rfl, e1, t1⟩
  have E1 := Lib.hid e1; have T1 := Lib.hid t1; clear e1 t1
  go_wp2
  go_ret
  exact ⟨.nilIface, S, rfl, by show RN _ _ .nil _; rw [RN], E1.out, T1.out⟩

set_option maxRecDepth 100000 in
set_option maxHeartbeats 2000000 in
theorem er_group (b : Nat) (l : List UInt8) (W0 : World) (deep : Nat) (f : ES → Nd × ES) (s : ES) (S O : Nat → Prop) (w : World) (hO : ∀ k, O k → k < w.heap.size) (hl : l.length ≤ 100000) (hd : deep < 12) (hC : ChX l W0 (deep + 1) f) (hK : ∀ s, Sane l s.r → Kp l s (f s) 2)
    (hs : Sane l s.r) (hlt : s.r.at_ < l.length) (hW : Wd W0 S w) (h : Erd b l s S w) :
    Calls Tryz.prog 142 #[.pointer (some ⟨b, 0, none⟩), .int .i64 deep] w (OutX b l S O w (groupX l (some f) s)) := by
  obtain ⟨sv, m, mv, hE⟩ := h
  have hsg := grpIn_sane hs hlt
  have r0 := rule8 hE.blk _ (Fr.refl _ _)
  have h1 := hE.turned 2 (.int .i64 ((s.r.at_ : Int) + 1)) (s.go 1) (by simp [RxS.go, ES.go]) rfl rfl hE.ok
  have t1 := hE.stp 2 (.int .i64 ((s.r.at_ : Int) + 1))
  have h2 := h1.turned 3 (.int .i64 ((s.r.opened : Int) + 1)) (grpIn s) (by simp [RxS.go, ES.go, grpIn]) rfl rfl hE.ok
  have t2 := h1.stp 3 (.int .i64 ((s.r.opened : Int) + 1))
  have r1 := rule8 h1.blk _ (Fr.refl _ _)
  have r2 := rule8 h2.blk _ (Fr.refl _ _)
  have hat1 : (((s.go 1).r.opened : Nat) : Int) = s.r.opened := rfl
  have hop2 : (((grpIn s).r.opened : Nat) : Int) = (s.r.opened : Int) + 1 := rfl
  rw [hat1] at r1
  rw [hop2] at r2
  have hop := hs.op
  have hle := hs.le
  obtain ⟨w1, hw1⟩ : ∃ w1, w1 = (w.setCell ⟨b, 2, none⟩ (.int .i64 ((s.r.at_ : Int) + 1))).setCell ⟨b, 3, none⟩ (.int .i64 ((s.r.opened : Int) + 1)) := ⟨_, rfl⟩
  rw [← hw1] at h2 t2 r2
  have hsz : w1.heap.size = w.heap.size := by rw [hw1]; simp [World.setCell]
  have T2 := Lib.hid (t1.trans t2)
  have hc := hC b (grpIn s) S O w1 (by rw [hsz]; exact hO) hsg (hW.stp T2.out) ⟨_, _, _, h2⟩
  have hk := hK (grpIn s) hsg
  obtain ⟨t, s2, hq⟩ : ∃ t s2, f (grpIn s) = (t, s2) := ⟨_, _, rfl⟩
  have hR : groupX l (some f) s = (.group ((s.r.opened + 1 : Nat) : Int) t, grpOut l (s.r.opened + 1) s.r.at_ s2) := by unfold groupX; simp only [hq]
  obtain ⟨R, hRR⟩ : ∃ R, groupX l (some f) s = R := ⟨_, rfl⟩
  rw [hRR]
  rw [hR] at hRR
  have HRR := Lib.hid hRR; clear hRR
  rw [hq] at hc hk
  rw [show ((deep + 1 : Nat) : Int) = (deep : Int) + 1 from by simp] at hc
  have HC := Lib.hid hc; have HK := Lib.hid hk; have HW1 := Lib.hid hw1
  have hdd : ((deep : Int) == 12) = false := by simp; omega
  have hdI : (deep : Int) < 12 := by omega
  clear hR hq hc hk hw1 h2 h1 t1 t2 hE hsg hC hK hd hO hat1 hop2 hW
  go_enter Tryz.func142, Tryz.ntmps142
  go_wp2_with (rw [← HW1.out])
  with_reducible refine (HC.out).mono ?_
  rintro e w2 ⟨v2, S2, rfl, rn2, e2, st2⟩
  have hs2 : Sane l s2.r := HK.out.sn
  have hle2 := hs2.le
  have hT : Calls Tryz.prog 103 #[.pointer (some ⟨b, 0, none⟩), .int .i32 41] w2 fun x w' => x = .returned (.bool (decide (l[s2.r.at_]? = some 41))) ∧ Erd b l (if l[s2.r.at_]? = some 41 then s2.go 1 else s2) S2 w' ∧ Stp S2 w2 S2 w' := er_take b l 41 s2 S2 w2 hl hle2 e2
  have RN2 := Lib.hid rn2; have ST2 := Lib.hid (T2.out.trans st2)
  obtain ⟨n, hn⟩ : ∃ n, s.r.opened + 1 = n := ⟨_, rfl⟩
  have hnI : (s.r.opened : Int) + 1 = (n : Nat) := by omega
  have hRR := HRR.out
  rw [hn] at hRR
  have hcl2 := hs2.cl
  -- what follows the test of the closing sign, in a world w3 with state s3
  have key : ∀ (s3 : ES) (w3 : World), s3.r.closed = s2.r.closed → Erd b l s3 S2 w3 → Stp S2 w2 S2 w3 →
      ∃ (m3 : Nat) (w4 : World), (∃ v0 v1 v2' v3 v5 v6 v7, w3.cell? ⟨b, 0, none⟩ = some v0 ∧ w3.cell? ⟨b, 1, none⟩ = some v1 ∧ w3.cell? ⟨b, 2, none⟩ = some v2' ∧ w3.cell? ⟨b, 3, none⟩ = some v3 ∧ w3.cell? ⟨b, 4, none⟩ = some (.map (some m3)) ∧ w3.cell? ⟨b, 5, none⟩ = some v5 ∧ w3.cell? ⟨b, 6, none⟩ = some v6 ∧ w3.cell? ⟨b, 7, none⟩ = some v7) ∧
      (Instr.lookup 178 (.map (some m3)) (.int .i64 (n : Nat)) false).run Tryz.prog w3 = .ok (.int .i64 (s2.r.closed.count n : Nat)) w3 ∧
      (Instr.mapUpdate 178 (.map (some m3)) (.int .i64 (n : Nat)) (.int .i64 ((s2.r.closed.count n : Nat) + 1))).run Tryz.prog w3 = .ok () w4 ∧
      Erd b l ⟨{ s3.r with closed := s3.r.closed ++ [n] }, s3.x⟩ S2 w4 ∧ Stp S2 w2 S2 w4 := by
    rintro s3 w3 hc3 ⟨sv3, m3, mv3, h3⟩ t3
    have hmp := h3.mp
    rw [hc3] at hmp
    obtain ⟨w4, hu1, hu2, hu3⟩ := imap_update (P := Tryz.prog) (mty := 178) (kt := 3) (et := 3) Tryz.underlying178 Tryz.underlying3 hmp n
    obtain ⟨⟨a0, a1, a2, a3, a4, a5, a6, a7⟩, _⟩ := rule8 h3.blk _ (Fr.refl _ _)
    refine ⟨m3, w4, ⟨_, _, _, _, _, _, _, a0, a1, a2, a3, a4, a5, a6, a7⟩, imap_look (P := Tryz.prog) (mty := 178) (kt := 3) (et := 3) Tryz.underlying178 Tryz.underlying3 (fun w => by kernel_rfl) hmp n, hu1, ⟨_, _, _, h3.close (by rw [hc3]; exact hu2) hu3⟩, t3.trans (h3.closeStp hu3)⟩
  have hcnt : s2.r.closed.count n ≤ s2.r.closed.length := List.count_le_length
  obtain ⟨k, hk⟩ : ∃ k, s2.r.closed.count n = k := ⟨_, rfl⟩
  rw [hk] at key hcnt
  have hkI : (k : Int) ≤ 100000 := by omega
  have HNI := Lib.hid hnI; clear hnI hn
  have KEY := Lib.hid key; have HS2 := Lib.hid e2
  have hv2 : v2 = .nilIface ∨ ∃ i y, v2 = .iface i y := by
    rcases rn2.kind' with ht | h
    · left
      have ht : t = .nil := ht
      rw [ht, RN] at rn2; exact rn2
    · exact .inr h
  clear HRR key rn2 st2 hk hcnt r0 r1 r2 e2
  by_cases hA : l[s2.r.at_]? = some 41
  · rw [decide_eq_true hA, if_pos hA] at hT
    have hgo : grpOut l n s.r.at_ s2 = ⟨{ (s2.go 1).r with closed := (s2.go 1).r.closed ++ [n] }, (s2.go 1).x⟩ := by unfold grpOut; rw [if_pos hA]
    rw [hgo] at hRR
    subst hRR
    have HT := Lib.hid hT
    clear hT hA hgo
    go_wp2_with fail
    with_reducible refine HT.out.mono ?_
    rintro e w3 ⟨rfl, e3, t3⟩
    obtain ⟨m3, w4, ⟨v0, v1, v2', v3, v5, v6, v7, a0, a1, a2, a3, a4, a5, a6, a7⟩, hlk, hup, e4, t4⟩ := KEY.out (s2.go 1) w3 rfl e3 t3
    have E4 := Lib.hid e4; have T4 := Lib.hid t4; clear e4 t4 e3 t3
    rw [← HNI.out] at hlk hup
    rcases hv2 with rfl | ⟨vi, vy, rfl⟩
    · go_wp2
      go_ret
      refine ⟨.iface 100 (.agg #[.int .i64 ((s.r.opened : Int) + 1), .nilIface]), S2, rfl, ?_, E4.out, ST2.out.trans T4.out⟩
      rw [HNI.out]
      exact (T4.out.rn RN2.out).grp _
    · go_wp2
      go_ret
      refine ⟨.iface 100 (.agg #[.int .i64 ((s.r.opened : Int) + 1), .iface vi vy]), S2, rfl, ?_, E4.out, ST2.out.trans T4.out⟩
      rw [HNI.out]
      exact (T4.out.rn RN2.out).grp _
  · rw [decide_eq_false hA, if_neg hA] at hT
    have hgo : grpOut l n s.r.at_ s2 = ⟨{ (s2.fail l 8 s.r.at_).r with closed := (s2.fail l 8 s.r.at_).r.closed ++ [n] }, (s2.fail l 8 s.r.at_).x⟩ := by unfold grpOut; rw [if_neg hA]
    rw [hgo] at hRR
    subst hRR
    have HT := Lib.hid hT
    clear hT hA hgo
    go_wp2_with fail
    with_reducible refine HT.out.mono ?_
    rintro e w3 ⟨rfl, e3, t3⟩
    have hf := er_fail b l s2 S2 8 s.r.at_ w3 hl (by decide) e3
    have HF := Lib.hid hf; have T3 := Lib.hid t3
    clear hf e3 t3
    go_wp2_with fail
    with_reducible refine HF.out.mono ?_
    rintro e w5 ⟨rfl, e5, t5⟩
    obtain ⟨m3, w4, ⟨v0, v1, v2', v3, v5, v6, v7, a0, a1, a2, a3, a4, a5, a6, a7⟩, hlk, hup, e4, t4⟩ := KEY.out (s2.fail l 8 s.r.at_) w5 rfl e5 (T3.out.trans t5)
    have E4 := Lib.hid e4; have T4 := Lib.hid t4; clear e4 t4 e5 t5
    rw [← HNI.out] at hlk hup
    rcases hv2 with rfl | ⟨vi, vy, rfl⟩
    · go_wp2
      go_ret
      refine ⟨.iface 100 (.agg #[.int .i64 ((s.r.opened : Int) + 1), .nilIface]), S2, rfl, ?_, E4.out, ST2.out.trans T4.out⟩
      rw [HNI.out]
      exact (T4.out.rn RN2.out).grp _
    · go_wp2
      go_ret
      refine ⟨.iface 100 (.agg #[.int .i64 ((s.r.opened : Int) + 1), .iface vi vy]), S2, rfl, ?_, E4.out, ST2.out.trans T4.out⟩
      rw [HNI.out]
      exact (T4.out.rn RN2.out).grp _
end Go.Proofs.YtmoeboknelnaoaaGreatDoor
