/- The printed function of flumelaw01.SerialNumbers answers true for every two 32-bit numbers. No conditions. -/
import Derived.Test.YtnnkabgbkbolgaaPSerialNumbersx1
import Derived.Test.YtnnkabgbkbolgaaBase
namespace Go.Proofs.Ytnnkabgbkbolgaa.Pure
open Go.RowKit Go.Proofs.Ytnnkabgbkbolgaa.PSerialNumbers Go.Proofs.YtnnkabgbkbolgaaW.PrintWords Go.Proofs.YtnnkabgbkbolgaaW.PrintLast
set_option linter.unusedSimpArgs false
set_option linter.unusedVariables false
theorem first_true : flumelaw01_first.f = some true := by decide +kernel
theorem less_eq (a b : Int) : serial_Less.f a b = some (decide (0 < (b - a) % 4294967296 ∧ (b - a) % 4294967296 < 2147483648)) := by
  unfold serial_Less.f wrap32
  congr 1
  exact decide_eq_decide.2 (by omega)
theorem short_eq (a b : Int) : serial_LessShort.f a b = some (decide (0 < (b - a) % 65536 ∧ (b - a) % 65536 < 32768)) := by
  unfold serial_LessShort.f
  rw [Base.i16_mod, Base.u16_mod]
  congr 1
  exact decide_eq_decide.2 (by omega)
theorem refdist_eq (a b : Int) (ha : 0 ≤ a ∧ a < 4294967296) (hb : 0 ≤ b ∧ b < 4294967296) : flumeref01_Dist.f a b = some ((b - a) % 4294967296) := by
  unfold flumeref01_Dist.f
  simp only [Base.u64_mod]
  split <;> (congr 1; omega)
theorem refless_eq (a b : Int) (ha : 0 ≤ a ∧ a < 4294967296) (hb : 0 ≤ b ∧ b < 4294967296) : flumeref01_Less.f a b = some (decide (0 < (b - a) % 4294967296 ∧ (b - a) % 4294967296 < 2147483648)) := by
  unfold flumeref01_Less.f
  rw [refdist_eq a b ha hb]
  simp only [Option.bind_some]
  split
  · congr 1; exact decide_eq_decide.2 (by omega)
  · congr 1; exact (decide_eq_false (by omega)).symm
theorem refshort_eq (a b : Int) (ha : 0 ≤ a ∧ a < 65536) (hb : 0 ≤ b ∧ b < 65536) : flumeref01_LessShort.f a b = some (decide (0 < (b - a) % 65536 ∧ (b - a) % 65536 < 32768)) := by
  unfold flumeref01_LessShort.f
  have w1 : wrap64 a = a := by unfold wrap64; omega
  have w2 : wrap64 b = b := by unfold wrap64; omega
  have w3 : wrap64 (b + 65536) = b + 65536 := by unfold wrap64; omega
  have w4 : wrap64 (b + 65536 - a) = b + 65536 - a := by unfold wrap64; omega
  have w5 : wrap64 (b - a) = b - a := by unfold wrap64; omega
  rw [w1, w2, w3, w4, w5]
  split <;> split
  · congr 1; exact decide_eq_decide.2 (by omega)
  · congr 1; exact (decide_eq_false (by omega)).symm
  · congr 1; exact decide_eq_decide.2 (by omega)
  · congr 1; exact (decide_eq_false (by omega)).symm
theorem SerialNumbers : flumelaw01_SerialNumbers.Pure := by
  intro a b ha hb
  have ha := Base.wf_u32 ha; have hb := Base.wf_u32 hb
  refine ⟨1, ?_⟩
  have sa : 0 ≤ IntKind.u16.wrap a ∧ IntKind.u16.wrap a < 65536 := by rw [Base.u16_mod]; omega
  have sb : 0 ≤ IntKind.u16.wrap b ∧ IntKind.u16.wrap b < 65536 := by rw [Base.u16_mod]; omega
  have hj : flumelaw01_SerialNumbers.j0 1 a b false = some true := by
    simp only [flumelaw01_SerialNumbers.j0, refless_eq a b ha hb, serial_Later.f, less_eq, Option.bind_some]
    rw [if_neg (by decide)]
    by_cases h : 0 < (b - a) % 4294967296 ∧ (b - a) % 4294967296 < 2147483648
    · rw [decide_eq_true h]; simp
    · rw [decide_eq_false h]; simp
  unfold flumelaw01_SerialNumbers.f
  rw [first_true]
  simp only [Option.bind_some, if_true, serial_Dist.f, less_eq, short_eq, refdist_eq a b ha hb, refless_eq a b ha hb, refshort_eq _ _ sa sb]
  rw [if_pos (by rw [Base.u64_mod]; omega), bne_self_eq_false, if_neg (by decide), bne_self_eq_false]
  exact hj

end Go.Proofs.Ytnnkabgbkbolgaa.Pure
