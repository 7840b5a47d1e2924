/-
  No cell of these rows narrows 'for every input' (looked for: loops, veiled, ifaces, maps, wideKeys, modest, calm, conditions, laid).
  DERIVED. THE GIVEN ROWS OF THIS SEAT. 6 by the template 'for every input the law returns true; each argument reads behind the call as it read before'; 0 by the template 'total and deterministic' (their statements: YtnnkabgbkbolgaaTotals.lean).
  GIVEN WITH THE SEED: the statements are not yours to turn. If you find one false, say at which input.
  Laid BY PROGRAM, IN A SANDBOX (cutbox-rows.mjs): the forced cells as the released guide's own fill.sh prints them over the translation c0aa4ceaa1ad31b8… (all of the seat's roots in one cut). By AI agents, Wed Nov 11 2026. No macro, syntax, notation, axiom, sorry.
-/
import Derived.Test.YtnnkabgbkbolgaaChecked
import GoSem.Claim
import GoSem.ClaimJoined
import GoSem.ClaimMapViews
import Derived.JoinedTies
import Derived.KernelRfl
namespace Go.Proofs.Ytnnkabgbkbolgaa
/- THE CELL 'sum', in the pinned program and in every row, IS THE sha256 OF THE DUMP (.gsa) THAT YtnnkabgbkbolgaaProg.lean LOADS. Nothing in Lean hashes anything: it is a label: what it is worth is what the hold of that sum in a sandbox is worth. -/
noncomputable def Try.pinned : Pinned := { name := "ytnnkabgbkbolgaa", sum := "c0aa4ceaa1ad31b89dfad65eaecc424b41f4c48a0137ecb11cb81f35416def4c", checked := Try.checked }
namespace Rows
def none {H : Type} : Left H := { results := [], args := [] }

/-- 'flumelaw01.SerialOrder': WHATEVER THE INPUT: true; the input reads as it did. -/
def serialOrderSpec : ChangeSpec := { name := "serialOrder", fn := fun _ => fun
  | [d1, d2, d3] => { results := [.lit (.bool true)], args := [d1, d2, d3] }
  | _ => none }
def serialOrderRow : OpenClaim := { program := "ytnnkabgbkbolgaa", sum := "c0aa4ceaa1ad31b89dfad65eaecc424b41f4c48a0137ecb11cb81f35416def4c", func := "flume/flumelaw01.SerialOrder", spec := "serialOrder", apart := false }
def SerialOrderSaid : Prop := serialOrderRow.holds Try.pinned (OpenSpec.ofChange serialOrderSpec)

/-- ITS FALSE NEIGHBOUR: 'it returns false'. Refute it at one input. -/
def serialOrderWrong : ChangeSpec := { name := "serialOrder", fn := fun _ => fun
  | [d1, d2, d3] => { results := [.lit (.bool false)], args := [d1, d2, d3] }
  | _ => none }
def SerialOrderWrongFalsely : Prop := serialOrderRow.holds Try.pinned (OpenSpec.ofChange serialOrderWrong)

/-- 'flumelaw01.SerialShorts': WHATEVER THE INPUT: true; the input reads as it did. -/
def serialShortsSpec : ChangeSpec := { name := "serialShorts", fn := fun _ => fun
  | [d1, d2] => { results := [.lit (.bool true)], args := [d1, d2] }
  | _ => none }
def serialShortsRow : OpenClaim := { program := "ytnnkabgbkbolgaa", sum := "c0aa4ceaa1ad31b89dfad65eaecc424b41f4c48a0137ecb11cb81f35416def4c", func := "flume/flumelaw01.SerialShorts", spec := "serialShorts", apart := false }
def SerialShortsSaid : Prop := serialShortsRow.holds Try.pinned (OpenSpec.ofChange serialShortsSpec)

/-- ITS FALSE NEIGHBOUR: 'it returns false'. Refute it at one input. -/
def serialShortsWrong : ChangeSpec := { name := "serialShorts", fn := fun _ => fun
  | [d1, d2] => { results := [.lit (.bool false)], args := [d1, d2] }
  | _ => none }
def SerialShortsWrongFalsely : Prop := serialShortsRow.holds Try.pinned (OpenSpec.ofChange serialShortsWrong)

/-- 'flumelaw01.SerialWays': WHATEVER THE INPUT: true; the input reads as it did. -/
def serialWaysSpec : ChangeSpec := { name := "serialWays", fn := fun _ => fun
  | [d1, d2, d3] => { results := [.lit (.bool true)], args := [d1, d2, d3] }
  | _ => none }
def serialWaysRow : OpenClaim := { program := "ytnnkabgbkbolgaa", sum := "c0aa4ceaa1ad31b89dfad65eaecc424b41f4c48a0137ecb11cb81f35416def4c", func := "flume/flumelaw01.SerialWays", spec := "serialWays", apart := false }
def SerialWaysSaid : Prop := serialWaysRow.holds Try.pinned (OpenSpec.ofChange serialWaysSpec)

/-- ITS FALSE NEIGHBOUR: 'it returns false'. Refute it at one input. -/
def serialWaysWrong : ChangeSpec := { name := "serialWays", fn := fun _ => fun
  | [d1, d2, d3] => { results := [.lit (.bool false)], args := [d1, d2, d3] }
  | _ => none }
def SerialWaysWrongFalsely : Prop := serialWaysRow.holds Try.pinned (OpenSpec.ofChange serialWaysWrong)

/-- 'flumelaw01.SerialSteps': WHATEVER THE INPUT: true; the input reads as it did. -/
def serialStepsSpec : ChangeSpec := { name := "serialSteps", fn := fun _ => fun
  | [d1, d2] => { results := [.lit (.bool true)], args := [d1, d2] }
  | _ => none }
def serialStepsRow : OpenClaim := { program := "ytnnkabgbkbolgaa", sum := "c0aa4ceaa1ad31b89dfad65eaecc424b41f4c48a0137ecb11cb81f35416def4c", func := "flume/flumelaw01.SerialSteps", spec := "serialSteps", apart := false }
def SerialStepsSaid : Prop := serialStepsRow.holds Try.pinned (OpenSpec.ofChange serialStepsSpec)

/-- ITS FALSE NEIGHBOUR: 'it returns false'. Refute it at one input. -/
def serialStepsWrong : ChangeSpec := { name := "serialSteps", fn := fun _ => fun
  | [d1, d2] => { results := [.lit (.bool false)], args := [d1, d2] }
  | _ => none }
def SerialStepsWrongFalsely : Prop := serialStepsRow.holds Try.pinned (OpenSpec.ofChange serialStepsWrong)

/-- 'flumelaw01.SerialNumbers': WHATEVER THE INPUT: true; the input reads as it did. -/
def serialNumbersSpec : ChangeSpec := { name := "serialNumbers", fn := fun _ => fun
  | [d1, d2] => { results := [.lit (.bool true)], args := [d1, d2] }
  | _ => none }
def serialNumbersRow : OpenClaim := { program := "ytnnkabgbkbolgaa", sum := "c0aa4ceaa1ad31b89dfad65eaecc424b41f4c48a0137ecb11cb81f35416def4c", func := "flume/flumelaw01.SerialNumbers", spec := "serialNumbers", apart := false }
def SerialNumbersSaid : Prop := serialNumbersRow.holds Try.pinned (OpenSpec.ofChange serialNumbersSpec)

/-- ITS FALSE NEIGHBOUR: 'it returns false'. Refute it at one input. -/
def serialNumbersWrong : ChangeSpec := { name := "serialNumbers", fn := fun _ => fun
  | [d1, d2] => { results := [.lit (.bool false)], args := [d1, d2] }
  | _ => none }
def SerialNumbersWrongFalsely : Prop := serialNumbersRow.holds Try.pinned (OpenSpec.ofChange serialNumbersWrong)

/-- 'flumelaw01.SerialTurns': WHATEVER THE INPUT: true; the input reads as it did. -/
def serialTurnsSpec : ChangeSpec := { name := "serialTurns", fn := fun _ => fun
  | [d1, d2, d3] => { results := [.lit (.bool true)], args := [d1, d2, d3] }
  | _ => none }
def serialTurnsRow : OpenClaim := { program := "ytnnkabgbkbolgaa", sum := "c0aa4ceaa1ad31b89dfad65eaecc424b41f4c48a0137ecb11cb81f35416def4c", func := "flume/flumelaw01.SerialTurns", spec := "serialTurns", apart := false }
def SerialTurnsSaid : Prop := serialTurnsRow.holds Try.pinned (OpenSpec.ofChange serialTurnsSpec)

/-- ITS FALSE NEIGHBOUR: 'it returns false'. Refute it at one input. -/
def serialTurnsWrong : ChangeSpec := { name := "serialTurns", fn := fun _ => fun
  | [d1, d2, d3] => { results := [.lit (.bool false)], args := [d1, d2, d3] }
  | _ => none }
def SerialTurnsWrongFalsely : Prop := serialTurnsRow.holds Try.pinned (OpenSpec.ofChange serialTurnsWrong)

/- THE SECOND FORM. 'bulk': how many values and letters a reading holds, each counted each time it is reached (what is shared counts as often as it is met; a slice's spare places count too). A statement '..UptoSaid' is the law's where the arguments, and the package variables that the reading takes, are together of bulk at most 1048576: NARROWER than '..Said'. Prove '..Said' where nothing that the law and all that it calls make is longer than what came in: it says more and counts as full. Else prove '..UptoSaid'. A law counts once. -/
mutual
def uptoBulk {H : Type} : DataW H → Nat
  | .lit (.string bytes) => bytes.length + 1
  | .lit _ => 1
  | .nil => 1
  | .ptr d => uptoBulk d + 1
  | .slice elems spare => uptoBulkAll elems + uptoBulkAll spare + 1
  | .agg parts => uptoBulkAll parts + 1
  | .iface _ d => uptoBulk d + 1
  | .map entries => uptoBulkEntries entries + 1
  | .held _ => 1
def uptoBulkAll {H : Type} : List (DataW H) → Nat
  | [] => 0
  | d :: r => uptoBulk d + uptoBulkAll r
def uptoBulkEntries {H : Type} : List (Lit × DataW H) → Nat
  | [] => 0
  | x :: r => uptoBulkEntry x + uptoBulkEntries r
def uptoBulkEntry {H : Type} : Lit × DataW H → Nat
  | (.string bytes, d) => bytes.length + uptoBulk d + 1
  | (_, d) => uptoBulk d + 1
 end
def uptoSmall : (H : Type) → List (DataW H) → Bool := fun _ ds => decide (uptoBulkAll ds ≤ 1048576)
def OpenSpec.upto (s : _root_.Go.ChangeSpec) : _root_.Go.OpenSpec := { _root_.Go.OpenSpec.ofChange s with cond := some uptoSmall }

/-- 'flumelaw01.SerialOrder', WHERE WHAT IT READS IS OF BULK AT MOST 1048576: true; the input reads as it did. -/
def serialOrderUptoRow : OpenClaim := { program := "ytnnkabgbkbolgaa", sum := "c0aa4ceaa1ad31b89dfad65eaecc424b41f4c48a0137ecb11cb81f35416def4c", func := "flume/flumelaw01.SerialOrder", spec := "serialOrder", apart := false, narrowed := true }
def SerialOrderUptoSaid : Prop := serialOrderUptoRow.holds Try.pinned (OpenSpec.upto serialOrderSpec)

/-- 'flumelaw01.SerialShorts', WHERE WHAT IT READS IS OF BULK AT MOST 1048576: true; the input reads as it did. -/
def serialShortsUptoRow : OpenClaim := { program := "ytnnkabgbkbolgaa", sum := "c0aa4ceaa1ad31b89dfad65eaecc424b41f4c48a0137ecb11cb81f35416def4c", func := "flume/flumelaw01.SerialShorts", spec := "serialShorts", apart := false, narrowed := true }
def SerialShortsUptoSaid : Prop := serialShortsUptoRow.holds Try.pinned (OpenSpec.upto serialShortsSpec)

/-- 'flumelaw01.SerialWays', WHERE WHAT IT READS IS OF BULK AT MOST 1048576: true; the input reads as it did. -/
def serialWaysUptoRow : OpenClaim := { program := "ytnnkabgbkbolgaa", sum := "c0aa4ceaa1ad31b89dfad65eaecc424b41f4c48a0137ecb11cb81f35416def4c", func := "flume/flumelaw01.SerialWays", spec := "serialWays", apart := false, narrowed := true }
def SerialWaysUptoSaid : Prop := serialWaysUptoRow.holds Try.pinned (OpenSpec.upto serialWaysSpec)

/-- 'flumelaw01.SerialSteps', WHERE WHAT IT READS IS OF BULK AT MOST 1048576: true; the input reads as it did. -/
def serialStepsUptoRow : OpenClaim := { program := "ytnnkabgbkbolgaa", sum := "c0aa4ceaa1ad31b89dfad65eaecc424b41f4c48a0137ecb11cb81f35416def4c", func := "flume/flumelaw01.SerialSteps", spec := "serialSteps", apart := false, narrowed := true }
def SerialStepsUptoSaid : Prop := serialStepsUptoRow.holds Try.pinned (OpenSpec.upto serialStepsSpec)

/-- 'flumelaw01.SerialNumbers', WHERE WHAT IT READS IS OF BULK AT MOST 1048576: true; the input reads as it did. -/
def serialNumbersUptoRow : OpenClaim := { program := "ytnnkabgbkbolgaa", sum := "c0aa4ceaa1ad31b89dfad65eaecc424b41f4c48a0137ecb11cb81f35416def4c", func := "flume/flumelaw01.SerialNumbers", spec := "serialNumbers", apart := false, narrowed := true }
def SerialNumbersUptoSaid : Prop := serialNumbersUptoRow.holds Try.pinned (OpenSpec.upto serialNumbersSpec)

/-- 'flumelaw01.SerialTurns', WHERE WHAT IT READS IS OF BULK AT MOST 1048576: true; the input reads as it did. -/
def serialTurnsUptoRow : OpenClaim := { program := "ytnnkabgbkbolgaa", sum := "c0aa4ceaa1ad31b89dfad65eaecc424b41f4c48a0137ecb11cb81f35416def4c", func := "flume/flumelaw01.SerialTurns", spec := "serialTurns", apart := false, narrowed := true }
def SerialTurnsUptoSaid : Prop := serialTurnsUptoRow.holds Try.pinned (OpenSpec.upto serialTurnsSpec)

end Rows
end Go.Proofs.Ytnnkabgbkbolgaa
