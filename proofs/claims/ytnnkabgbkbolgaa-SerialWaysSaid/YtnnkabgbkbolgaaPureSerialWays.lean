/- The printed function of flumelaw01.SerialWays answers true for every three 32-bit numbers. No conditions. -/
import Derived.Test.YtnnkabgbkbolgaaPSerialWaysx1
import Derived.Test.YtnnkabgbkbolgaaBase
namespace Go.Proofs.Ytnnkabgbkbolgaa.Pure
open Go.RowKit Go.Proofs.Ytnnkabgbkbolgaa.PSerialWays Go.Proofs.YtnnkabgbkbolgaaW.PrintWords Go.Proofs.YtnnkabgbkbolgaaW.PrintLast
set_option linter.unusedSimpArgs false
set_option linter.unusedVariables false
theorem first_true : flumelaw01_first.f = some true := by decide +kernel
theorem less_eq (a b : Int) : serial_Less.f a b = some (decide (0 < (b - a) % 4294967296 ∧ (b - a) % 4294967296 < 2147483648)) := by
  unfold serial_Less.f wrap32
  congr 1
  exact decide_eq_decide.2 (by omega)
theorem short_eq (a b : Int) : serial_LessShort.f a b = some (decide (0 < (b - a) % 65536 ∧ (b - a) % 65536 < 32768)) := by
  unfold serial_LessShort.f
  rw [Base.i16_mod, Base.u16_mod]
  congr 1
  exact decide_eq_decide.2 (by omega)
theorem refdist_eq (a b : Int) (ha : 0 ≤ a ∧ a < 4294967296) (hb : 0 ≤ b ∧ b < 4294967296) : flumeref01_Dist.f a b = some ((b - a) % 4294967296) := by
  unfold flumeref01_Dist.f
  simp only [Base.u64_mod]
  split <;> (congr 1; omega)
theorem in_eq (x a b : Int) : serial_In.f x a b = some (decide ((x - a) % 4294967296 ≤ (b - a) % 4294967296)) := by
  unfold serial_In.f serial_Dist.f
  rfl
theorem SerialWays : flumelaw01_SerialWays.Pure := by
  intro x a b hx ha hb
  have hx := Base.wf_u32 hx; have ha := Base.wf_u32 ha; have hb := Base.wf_u32 hb
  unfold flumelaw01_SerialWays.f
  rw [first_true]
  simp only [Option.bind_some, if_true, in_eq, refdist_eq a x ha hx, refdist_eq a b ha hb, beq_self_eq_true]

end Go.Proofs.Ytnnkabgbkbolgaa.Pure
