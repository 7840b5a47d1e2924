/- The printed function of flumelaw01.SerialSteps answers true for every two 32-bit numbers. No conditions. -/
import Derived.Test.YtnnkabgbkbolgaaPSerialStepsx1
import Derived.Test.YtnnkabgbkbolgaaBase
namespace Go.Proofs.Ytnnkabgbkbolgaa.Pure
open Go.RowKit Go.Proofs.Ytnnkabgbkbolgaa.PSerialSteps Go.Proofs.YtnnkabgbkbolgaaW.PrintWords Go.Proofs.YtnnkabgbkbolgaaW.PrintLast
set_option linter.unusedSimpArgs false
set_option linter.unusedVariables false
theorem first_true : flumelaw01_first.f = some true := by decide +kernel
theorem less_eq (a b : Int) : serial_Less.f a b = some (decide (0 < (b - a) % 4294967296 ∧ (b - a) % 4294967296 < 2147483648)) := by
  unfold serial_Less.f wrap32
  congr 1
  exact decide_eq_decide.2 (by omega)
theorem short_eq (a b : Int) : serial_LessShort.f a b = some (decide (0 < (b - a) % 65536 ∧ (b - a) % 65536 < 32768)) := by
  unfold serial_LessShort.f
  rw [Base.i16_mod, Base.u16_mod]
  congr 1
  exact decide_eq_decide.2 (by omega)
theorem in_eq (x a b : Int) : serial_In.f x a b = some (decide ((x - a) % 4294967296 ≤ (b - a) % 4294967296)) := by
  unfold serial_In.f serial_Dist.f
  rfl
theorem SerialSteps : flumelaw01_SerialSteps.Pure := by
  intro a b ha hb
  have ha := Base.wf_u32 ha; have hb := Base.wf_u32 hb
  unfold flumelaw01_SerialSteps.f
  rw [first_true]
  simp only [Option.bind_some, if_true, in_eq, serial_Dist.f]
  rw [if_pos (by omega), if_pos (by omega), if_pos (decide_eq_true (by omega)), if_pos (decide_eq_true (by omega))]
  congr 1
  rw [beq_iff_eq, Bool.eq_iff_iff, decide_eq_true_eq, beq_iff_eq]
  omega

end Go.Proofs.Ytnnkabgbkbolgaa.Pure
