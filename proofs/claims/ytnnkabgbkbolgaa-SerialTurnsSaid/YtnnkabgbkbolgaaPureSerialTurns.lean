/- The printed function of flumelaw01.SerialTurns answers true for every three 32-bit numbers. No conditions. -/
import Derived.Test.YtnnkabgbkbolgaaPSerialTurnsx1
import Derived.Test.YtnnkabgbkbolgaaBase
namespace Go.Proofs.Ytnnkabgbkbolgaa.Pure
open Go.RowKit Go.Proofs.Ytnnkabgbkbolgaa.PSerialTurns Go.Proofs.YtnnkabgbkbolgaaW.PrintWords Go.Proofs.YtnnkabgbkbolgaaW.PrintLast
set_option linter.unusedSimpArgs false
set_option linter.unusedVariables false
theorem first_true : flumelaw01_first.f = some true := by decide +kernel
theorem less_eq (a b : Int) : serial_Less.f a b = some (decide (0 < (b - a) % 4294967296 ∧ (b - a) % 4294967296 < 2147483648)) := by
  unfold serial_Less.f wrap32
  congr 1
  exact decide_eq_decide.2 (by omega)
theorem short_eq (a b : Int) : serial_LessShort.f a b = some (decide (0 < (b - a) % 65536 ∧ (b - a) % 65536 < 32768)) := by
  unfold serial_LessShort.f
  rw [Base.i16_mod, Base.u16_mod]
  congr 1
  exact decide_eq_decide.2 (by omega)
theorem in_eq (x a b : Int) : serial_In.f x a b = some (decide ((x - a) % 4294967296 ≤ (b - a) % 4294967296)) := by
  unfold serial_In.f serial_Dist.f
  rfl
theorem SerialTurns : flumelaw01_SerialTurns.Pure := by
  intro a b c ha hb hc
  have ha := Base.wf_u32 ha; have hb := Base.wf_u32 hb; have hc := Base.wf_u32 hc
  have e : ((b + c) % 4294967296 - (a + c) % 4294967296) % 4294967296 = (b - a) % 4294967296 := by omega
  unfold flumelaw01_SerialTurns.f
  rw [first_true]
  simp only [Option.bind_some, if_true, in_eq, serial_Dist.f, serial_Later.f, less_eq, e, beq_self_eq_true]
  have e1 : ((a + c) % 4294967296 - c) % 4294967296 = (a - 0) % 4294967296 := by omega
  have e2 : ((b + c) % 4294967296 - c) % 4294967296 = (b - 0) % 4294967296 := by omega
  by_cases h : 0 < (b - a) % 4294967296 ∧ (b - a) % 4294967296 < 2147483648
  · rw [decide_eq_true h]; simp only [if_true, Option.bind_some, e1, e2, beq_self_eq_true]
  · rw [decide_eq_false h]; simp only [if_true, Option.bind_some, e1, e2, beq_self_eq_true]; simp

end Go.Proofs.Ytnnkabgbkbolgaa.Pure
