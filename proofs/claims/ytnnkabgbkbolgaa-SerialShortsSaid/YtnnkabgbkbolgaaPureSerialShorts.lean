/- The printed function of flumelaw01.SerialShorts answers true for every two 16-bit numbers. No conditions. -/
import Derived.Test.YtnnkabgbkbolgaaPSerialShortsx1
import Derived.Test.YtnnkabgbkbolgaaBase
namespace Go.Proofs.Ytnnkabgbkbolgaa.Pure
open Go.RowKit Go.Proofs.Ytnnkabgbkbolgaa.PSerialShorts Go.Proofs.YtnnkabgbkbolgaaW.PrintWords Go.Proofs.YtnnkabgbkbolgaaW.PrintLast
set_option linter.unusedSimpArgs false
set_option linter.unusedVariables false
theorem first_true : flumelaw01_first.f = some true := by decide +kernel
theorem less_eq (a b : Int) : serial_Less.f a b = some (decide (0 < (b - a) % 4294967296 ∧ (b - a) % 4294967296 < 2147483648)) := by
  unfold serial_Less.f wrap32
  congr 1
  exact decide_eq_decide.2 (by omega)
theorem short_eq (a b : Int) : serial_LessShort.f a b = some (decide (0 < (b - a) % 65536 ∧ (b - a) % 65536 < 32768)) := by
  unfold serial_LessShort.f
  rw [Base.i16_mod, Base.u16_mod]
  congr 1
  exact decide_eq_decide.2 (by omega)
theorem SerialShorts : flumelaw01_SerialShorts.Pure := by
  intro a b ha hb
  have ha := Base.wf_u16 ha; have hb := Base.wf_u16 hb
  unfold flumelaw01_SerialShorts.f
  rw [first_true]
  simp only [Option.bind_some, if_true, less_eq, short_eq, Base.u16_mod]
  have h1 : (decide (0 < (b - a) % 65536 ∧ (b - a) % 65536 < 32768) == decide (0 < (b % 4294967296 * 65536 % 4294967296 - a % 4294967296 * 65536 % 4294967296) % 4294967296 ∧ (b % 4294967296 * 65536 % 4294967296 - a % 4294967296 * 65536 % 4294967296) % 4294967296 < 2147483648)) = true := by
    rw [beq_iff_eq]; exact decide_eq_decide.2 (by omega)
  have h2 : decide (0 < ((a + 1) % 65536 - a) % 65536 ∧ ((a + 1) % 65536 - a) % 65536 < 32768) = true := decide_eq_true (by omega)
  have h3 : decide (0 < (a - (a + 1) % 65536) % 65536 ∧ (a - (a + 1) % 65536) % 65536 < 32768) = false := decide_eq_false (by omega)
  rw [h1, if_pos rfl, h2, if_pos rfl, h3]
  rfl

end Go.Proofs.Ytnnkabgbkbolgaa.Pure
