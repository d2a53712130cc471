/-
  Walks: placketref01.Class.
-/
import Derived.Test.YthkleolkkgichaaDoorOctetI
import Derived.Test.YthkleolkkgichaaDoorQuietTail
import Derived.Deep.RegionHeld3
import Derived.Deep.DeepCutAuto
import Derived.Deep.CutBlock
namespace Go.Proofs.YthkleolkkgichaaDoor
open Go.RowKit

theorem e_lower : spn 97 122 = pk isLower 256 := by decide +kernel
theorem e_upper : spn 65 90 = pk isUpper 256 := by decide +kernel
theorem e_digit : spn 48 57 = pk isDigit 256 := by decide +kernel
theorem e_alpha : (spn 97 122).or (spn 65 90) = pk isAlpha 256 := by decide +kernel
theorem e_alnum : ((spn 97 122).or (spn 65 90)).or (spn 48 57) = pk isAlnum 256 := by decide +kernel
theorem e_xdigit : (spn 48 57).or ((spn 65 70).or (spn 97 102)) = pk isXdigit 256 := by decide +kernel
theorem e_blank : (spn 32 32).or (spn 9 9) = pk isBlank 256 := by decide +kernel
theorem e_space : ((spn 32 32).or (spn 9 9)).or (spn 10 13) = pk isSpace 256 := by decide +kernel
theorem e_cntrl : (spn 0 31).or (spn 127 127) = pk isCntrl 256 := by decide +kernel
theorem e_print : spn 32 126 = pk isPrint 256 := by decide +kernel
theorem e_graph : spn 33 126 = pk isGraph 256 := by decide +kernel
theorem e_punct : (spn 33 126).and (((spn 97 122).or (spn 65 90)).or (spn 48 57)).not = pk isPunct 256 := by decide +kernel

abbrev setV (s : S4) : Value := .agg #[.int .u64 s.a, .int .u64 s.b, .int .u64 s.c, .int .u64 s.d]
/-- A set of the document's and a bool that are handed back. -/
theorem results_setRB {fn : Func} {p q : Tmp} (h : fn.results = #[.cell p 24, .tmp q]) {tmps : Array Value} {r : Nat} (ht : tmps.getD p undef = .pointer (some ⟨r, 0, none⟩)) {v : Value} (hq : tmps.getD q undef = v) {W : World} {s : S4}
    (hb : W.heap[r]? = some (.cells #[.int .u64 s.a, .int .u64 s.b, .int .u64 s.c, .int .u64 s.d] 24 (0, 0))) : (results fn tmps).run Tryd.prog W = .ok (.tuple #[setV s, v]) W := by
  obtain ⟨c0, c1, c2, c3, _⟩ := cellS (s := s) hb
  have ht' : tmps[p]?.getD undef = .pointer (some ⟨r, 0, none⟩) := by rw [← ht]; simp
  have hq' : tmps[q]?.getD undef = v := by rw [← hq]; simp
  simp only [results, h]
  simp [ht', hq', go_sem, c0, c1, c2, c3]

/-! The contracts, their sets written out. -/
theorem spanR_lit (a b : Nat) (w : World) (ha : a < 256) (hb : b < 256) :
    Calls Tryd.prog 8 #[.int .u8 a, .int .u8 b] w fun e w' => e = .returned (setV (spn a b)) ∧ Fr nob w w' := spanR_any a b w ha hb
end Go.Proofs.YthkleolkkgichaaDoor
