/-
  Walks of piece.bracket and of the document's: how far a bracket goes.
-/
import Derived.Test.YthdcpjmjdbldiaaDoorBuilder
import Derived.Test.YthdcpjmjdbldiaaDoorBytes
namespace Go.Proofs.YthdcpjmjdbldiaaDoor
open Go.RowKit

theorem strings_HasPrefix (l p : List UInt8) (w : World) (hs : l.length ≤ 9223372036854775807) (hp : p.length ≤ 9223372036854775807) :
    Calls Tryd.prog 39 #[.string ⟨l.toArray⟩, .string ⟨p.toArray⟩] w fun e w' => e = .returned (.bool (p.isPrefixOf l)) ∧ w = w' := by
  have HS := Lib.hid hs; have HP := Lib.hid hp
  have hx := bext l 0 p.length
  simp only [List.drop_zero, Nat.sub_zero] at hx
  go_enter Tryd.func39, Tryd.ntmps39
  go_wp2
  all_goals go_ret
  · exact ⟨ret_bool (prefix_take (by assumption)), rfl⟩
  · exact ⟨ret_bool (prefix_long (by assumption)), rfl⟩

theorem strings_IndexByte (l : List UInt8) (c : Int) (w : World) :
    Calls Tryd.prog 40 #[.string ⟨l.toArray⟩, .int .u8 c] w fun e w' => e = .returned (.int .i64 (Lib.indexByte l c.toNat.toUInt8)) ∧ w = w' := by
  go_enter Tryd.func40, Tryd.ntmps40
  go_wp2
  rw [run_callFunc_extern Tryd.func53 (by kernel_rfl) (by kernel_rfl) (by kernel_rfl) (e := Extern.BytealgIndexByte.indexByte) (by kernel_rfl), Lib.run_indexByteString]
  simp only [Result.andThen]
  rw [Oper.upon_value]
  go_wp2
  go_ret
  exact ⟨rfl, rfl⟩


/-- piece.bracket: of a text that begins with a bracket. -/
theorem bracket_any (l : List UInt8) (w : World) (hs : l.length ≤ 4611686018427387904) (h1 : 1 ≤ l.length) :
    Calls Tryd.prog 25 #[.string ⟨l.toArray⟩] w fun e w' => e = .returned (.int .i64 (brE l 0)) ∧ w = w' := by
  have i0 : ∀ w, (Instr.index 65 (.agg #[.string ⟨#[94]⟩, .string ⟨#[93]⟩]) (.int .i64 0)).run Tryd.prog w = .ok (.string ⟨#[94]⟩) w := fun _ => by kernel_rfl
  have i1 : ∀ w, (Instr.index 65 (.agg #[.string ⟨#[94]⟩, .string ⟨#[93]⟩]) (.int .i64 1)).run Tryd.prog w = .ok (.string ⟨#[93]⟩) w := fun _ => by kernel_rfl
  go_enter Tryd.func25, Tryd.ntmps25
  go_wp2
  go_loop [3, 8] (fun b i => (b = .int .i64 1 ∧ i = .int .i64 0) ∨ (b = .int .i64 (adv l 94 1) ∧ i = .int .i64 1) ∨ (b = .int .i64 (adv l 93 (adv l 94 1)) ∧ i = .int .i64 2)) (fun _ i => 2 - (intOf i).toNat)
  case atStart => exact .inl ⟨rfl, rfl⟩
  case round =>
    rcases hrel with ⟨rfl, rfl⟩ | ⟨rfl, rfl⟩ | ⟨rfl, rfl⟩
    · go_wp2_with (go_at_call 39; refine (strings_HasPrefix _ _ w (by simp; omega) (by simp)).mono ?_; rintro e w' ⟨rfl, rfl⟩)
      · have e := adv_py (l := l) (c := 94) (k := 1) (by rw [List.drop_one]; assumption)
        go_round
        case rel => exact .inr (.inl ⟨by rw [e]; rfl, rfl⟩)
        case measure => simp [intOf]
      · have e := adv_pn (l := l) (c := 94) (k := 1) (by rw [List.drop_one]; assumption)
        go_round
        case rel => exact .inr (.inl ⟨by rw [e]; rfl, rfl⟩)
        case measure => simp [intOf]
    · have ha : adv l 94 1 ≤ l.length := adv_le h1
      go_wp2_with (go_at_call 39; refine (strings_HasPrefix _ _ w (by simp; omega) (by simp)).mono ?_; rintro e w' ⟨rfl, rfl⟩)
      · have e := adv_py (l := l) (c := 93) (k := adv l 94 1) (by assumption)
        go_round
        case rel => exact .inr (.inr ⟨by rw [e]; go_num, rfl⟩)
        case measure => simp [intOf]
      · have e := adv_pn (l := l) (c := 93) (k := adv l 94 1) (by assumption)
        go_round
        case rel => exact .inr (.inr ⟨by rw [e], rfl⟩)
        case measure => simp [intOf]
    · have ha : adv l 93 (adv l 94 1) ≤ l.length := adv_le (adv_le h1)
      have hb := indexByte_bd (l.drop (adv l 93 (adv l 94 1))) 93
      have hn := Lib.hid (indexByte_nxt (c := 93) ha)
      have hl := nxt_le (c := 93) ha
      have hg := nxt_ge (l := l) (c := 93) (k := adv l 93 (adv l 94 1))
      simp only [List.length_drop] at hb
      go_wp2_with (go_at_call 40; refine (strings_IndexByte _ _ w).mono ?_; rintro e w' ⟨rfl, rfl⟩)
      · have hlt : Lib.indexByte (List.drop (adv l 93 (adv l 94 1)) l) 93 < 0 := by assumption
        go_ret
        refine ⟨ret_int ?_, rfl⟩
        have hn := hn.out; unfold brE; simp only [Nat.zero_add]
        split at hn <;> omega
      · have hlt : 0 ≤ Lib.indexByte (List.drop (adv l 93 (adv l 94 1)) l) 93 := by assumption
        go_ret
        refine ⟨ret_int ?_, rfl⟩
        have hn := hn.out; unfold brE; simp only [Nat.zero_add]
        split at hn <;> omega

end Go.Proofs.YthdcpjmjdbldiaaDoor
