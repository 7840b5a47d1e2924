/-
  No cell of these rows narrows 'for every input' (looked for: loops, veiled, ifaces, maps, wideKeys, modest, calm, conditions, laid).
  DERIVED. THE GIVEN ROWS OF THIS SEAT. 6 by the template 'for every input the law returns true; each argument reads behind the call as it read before'; 0 by the template 'total and deterministic' (their statements: YtoknjnaianhjaaaTotals.lean).
  GIVEN WITH THE SEED: the statements are not yours to turn. If you find one false, say at which input.
  Laid BY PROGRAM, IN A SANDBOX (cutbox-rows.mjs): the forced cells as the released guide's own fill.sh prints them over the translation 00f095aab3e6face… (all of the seat's roots in one cut). By AI agents, Wed Nov 11 2026. No macro, syntax, notation, axiom, sorry.
-/
import Derived.Test.YtoknjnaianhjaaaChecked
import GoSem.Claim
import GoSem.ClaimJoined
import GoSem.ClaimMapViews
import Derived.JoinedTies
import Derived.KernelRfl
namespace Go.Proofs.Ytoknjnaianhjaaa
/- THE CELL 'sum', in the pinned program and in every row, IS THE sha256 OF THE DUMP (.gsa) THAT YtoknjnaianhjaaaProg.lean LOADS. Nothing in Lean hashes anything: it is a label: what it is worth is what the hold of that sum in a sandbox is worth. -/
noncomputable def Try.pinned : Pinned := { name := "ytoknjnaianhjaaa", sum := "00f095aab3e6face7ae96b19afd8db91f1ee026db1d4bfc7aaa76a495a282b7f", checked := Try.checked }
namespace Rows
def none {H : Type} : Left H := { results := [], args := [] }

/-- 'flumelaw05.ParamPuts': WHATEVER THE INPUT: true; the input reads as it did. -/
def paramPutsSpec : ChangeSpec := { name := "paramPuts", fn := fun _ => fun
  | [d] => { results := [.lit (.bool true)], args := [d] }
  | _ => none }
def paramPutsRow : OpenClaim := { program := "ytoknjnaianhjaaa", sum := "00f095aab3e6face7ae96b19afd8db91f1ee026db1d4bfc7aaa76a495a282b7f", func := "flume/flumelaw05.ParamPuts", spec := "paramPuts", unfollowed := true, recurses := true, apart := false }
def ParamPutsSaid : Prop := paramPutsRow.holds Try.pinned (OpenSpec.ofChange paramPutsSpec)

/-- ITS FALSE NEIGHBOUR: 'it returns false'. Refute it at one input. -/
def paramPutsWrong : ChangeSpec := { name := "paramPuts", fn := fun _ => fun
  | [d] => { results := [.lit (.bool false)], args := [d] }
  | _ => none }
def ParamPutsWrongFalsely : Prop := paramPutsRow.holds Try.pinned (OpenSpec.ofChange paramPutsWrong)

/-- 'flumelaw05.ParamGets': WHATEVER THE INPUT: true; the input reads as it did. -/
def paramGetsSpec : ChangeSpec := { name := "paramGets", fn := fun _ => fun
  | [d] => { results := [.lit (.bool true)], args := [d] }
  | _ => none }
def paramGetsRow : OpenClaim := { program := "ytoknjnaianhjaaa", sum := "00f095aab3e6face7ae96b19afd8db91f1ee026db1d4bfc7aaa76a495a282b7f", func := "flume/flumelaw05.ParamGets", spec := "paramGets", unfollowed := true, recurses := true, apart := false }
def ParamGetsSaid : Prop := paramGetsRow.holds Try.pinned (OpenSpec.ofChange paramGetsSpec)

/-- ITS FALSE NEIGHBOUR: 'it returns false'. Refute it at one input. -/
def paramGetsWrong : ChangeSpec := { name := "paramGets", fn := fun _ => fun
  | [d] => { results := [.lit (.bool false)], args := [d] }
  | _ => none }
def ParamGetsWrongFalsely : Prop := paramGetsRow.holds Try.pinned (OpenSpec.ofChange paramGetsWrong)

/-- 'flumelaw05.ParamJoins': WHATEVER THE INPUT: true; the input reads as it did. -/
def paramJoinsSpec : ChangeSpec := { name := "paramJoins", fn := fun _ => fun
  | [d1, d2] => { results := [.lit (.bool true)], args := [d1, d2] }
  | _ => none }
def paramJoinsRow : OpenClaim := { program := "ytoknjnaianhjaaa", sum := "00f095aab3e6face7ae96b19afd8db91f1ee026db1d4bfc7aaa76a495a282b7f", func := "flume/flumelaw05.ParamJoins", spec := "paramJoins", unfollowed := true, recurses := true, apart := false }
def ParamJoinsSaid : Prop := paramJoinsRow.holds Try.pinned (OpenSpec.ofChange paramJoinsSpec)

/-- ITS FALSE NEIGHBOUR: 'it returns false'. Refute it at one input. -/
def paramJoinsWrong : ChangeSpec := { name := "paramJoins", fn := fun _ => fun
  | [d1, d2] => { results := [.lit (.bool false)], args := [d1, d2] }
  | _ => none }
def ParamJoinsWrongFalsely : Prop := paramJoinsRow.holds Try.pinned (OpenSpec.ofChange paramJoinsWrong)

/-- 'flumelaw05.ParamCuts': WHATEVER THE INPUT: true; the input reads as it did. -/
def paramCutsSpec : ChangeSpec := { name := "paramCuts", fn := fun _ => fun
  | [d1, d2] => { results := [.lit (.bool true)], args := [d1, d2] }
  | _ => none }
def paramCutsRow : OpenClaim := { program := "ytoknjnaianhjaaa", sum := "00f095aab3e6face7ae96b19afd8db91f1ee026db1d4bfc7aaa76a495a282b7f", func := "flume/flumelaw05.ParamCuts", spec := "paramCuts", unfollowed := true, recurses := true, apart := false }
def ParamCutsSaid : Prop := paramCutsRow.holds Try.pinned (OpenSpec.ofChange paramCutsSpec)

/-- ITS FALSE NEIGHBOUR: 'it returns false'. Refute it at one input. -/
def paramCutsWrong : ChangeSpec := { name := "paramCuts", fn := fun _ => fun
  | [d1, d2] => { results := [.lit (.bool false)], args := [d1, d2] }
  | _ => none }
def ParamCutsWrongFalsely : Prop := paramCutsRow.holds Try.pinned (OpenSpec.ofChange paramCutsWrong)

/-- 'flumelaw05.ParamTurns': WHATEVER THE INPUT: true; the input reads as it did. -/
def paramTurnsSpec : ChangeSpec := { name := "paramTurns", fn := fun _ => fun
  | [d1, d2, d3] => { results := [.lit (.bool true)], args := [d1, d2, d3] }
  | _ => none }
def paramTurnsRow : OpenClaim := { program := "ytoknjnaianhjaaa", sum := "00f095aab3e6face7ae96b19afd8db91f1ee026db1d4bfc7aaa76a495a282b7f", func := "flume/flumelaw05.ParamTurns", spec := "paramTurns", unfollowed := true, recurses := true, apart := false }
def ParamTurnsSaid : Prop := paramTurnsRow.holds Try.pinned (OpenSpec.ofChange paramTurnsSpec)

/-- ITS FALSE NEIGHBOUR: 'it returns false'. Refute it at one input. -/
def paramTurnsWrong : ChangeSpec := { name := "paramTurns", fn := fun _ => fun
  | [d1, d2, d3] => { results := [.lit (.bool false)], args := [d1, d2, d3] }
  | _ => none }
def ParamTurnsWrongFalsely : Prop := paramTurnsRow.holds Try.pinned (OpenSpec.ofChange paramTurnsWrong)

/-- 'flumelaw05.ParamFinds': WHATEVER THE INPUT: true; the input reads as it did. -/
def paramFindsSpec : ChangeSpec := { name := "paramFinds", fn := fun _ => fun
  | [d1, d2] => { results := [.lit (.bool true)], args := [d1, d2] }
  | _ => none }
def paramFindsRow : OpenClaim := { program := "ytoknjnaianhjaaa", sum := "00f095aab3e6face7ae96b19afd8db91f1ee026db1d4bfc7aaa76a495a282b7f", func := "flume/flumelaw05.ParamFinds", spec := "paramFinds", unfollowed := true, recurses := true, apart := false }
def ParamFindsSaid : Prop := paramFindsRow.holds Try.pinned (OpenSpec.ofChange paramFindsSpec)

/-- ITS FALSE NEIGHBOUR: 'it returns false'. Refute it at one input. -/
def paramFindsWrong : ChangeSpec := { name := "paramFinds", fn := fun _ => fun
  | [d1, d2] => { results := [.lit (.bool false)], args := [d1, d2] }
  | _ => none }
def ParamFindsWrongFalsely : Prop := paramFindsRow.holds Try.pinned (OpenSpec.ofChange paramFindsWrong)

/- THE SECOND FORM. 'bulk': how many values and letters a reading holds, each counted each time it is reached (what is shared counts as often as it is met; a slice's spare places count too). A statement '..UptoSaid' is the law's where the arguments, and the package variables that the reading takes, are together of bulk at most 1048576: NARROWER than '..Said'. Prove '..Said' where nothing that the law and all that it calls make is longer than what came in: it says more and counts as full. Else prove '..UptoSaid'. A law counts once. -/
mutual
def uptoBulk {H : Type} : DataW H → Nat
  | .lit (.string bytes) => bytes.length + 1
  | .lit _ => 1
  | .nil => 1
  | .ptr d => uptoBulk d + 1
  | .slice elems spare => uptoBulkAll elems + uptoBulkAll spare + 1
  | .agg parts => uptoBulkAll parts + 1
  | .iface _ d => uptoBulk d + 1
  | .map entries => uptoBulkEntries entries + 1
  | .held _ => 1
def uptoBulkAll {H : Type} : List (DataW H) → Nat
  | [] => 0
  | d :: r => uptoBulk d + uptoBulkAll r
def uptoBulkEntries {H : Type} : List (Lit × DataW H) → Nat
  | [] => 0
  | x :: r => uptoBulkEntry x + uptoBulkEntries r
def uptoBulkEntry {H : Type} : Lit × DataW H → Nat
  | (.string bytes, d) => bytes.length + uptoBulk d + 1
  | (_, d) => uptoBulk d + 1
 end
def uptoSmall : (H : Type) → List (DataW H) → Bool := fun _ ds => decide (uptoBulkAll ds ≤ 1048576)
def OpenSpec.upto (s : _root_.Go.ChangeSpec) : _root_.Go.OpenSpec := { _root_.Go.OpenSpec.ofChange s with cond := some uptoSmall }

/-- 'flumelaw05.ParamPuts', WHERE WHAT IT READS IS OF BULK AT MOST 1048576: true; the input reads as it did. -/
def paramPutsUptoRow : OpenClaim := { program := "ytoknjnaianhjaaa", sum := "00f095aab3e6face7ae96b19afd8db91f1ee026db1d4bfc7aaa76a495a282b7f", func := "flume/flumelaw05.ParamPuts", spec := "paramPuts", unfollowed := true, recurses := true, apart := false, narrowed := true }
def ParamPutsUptoSaid : Prop := paramPutsUptoRow.holds Try.pinned (OpenSpec.upto paramPutsSpec)

/-- 'flumelaw05.ParamGets', WHERE WHAT IT READS IS OF BULK AT MOST 1048576: true; the input reads as it did. -/
def paramGetsUptoRow : OpenClaim := { program := "ytoknjnaianhjaaa", sum := "00f095aab3e6face7ae96b19afd8db91f1ee026db1d4bfc7aaa76a495a282b7f", func := "flume/flumelaw05.ParamGets", spec := "paramGets", unfollowed := true, recurses := true, apart := false, narrowed := true }
def ParamGetsUptoSaid : Prop := paramGetsUptoRow.holds Try.pinned (OpenSpec.upto paramGetsSpec)

/-- 'flumelaw05.ParamJoins', WHERE WHAT IT READS IS OF BULK AT MOST 1048576: true; the input reads as it did. -/
def paramJoinsUptoRow : OpenClaim := { program := "ytoknjnaianhjaaa", sum := "00f095aab3e6face7ae96b19afd8db91f1ee026db1d4bfc7aaa76a495a282b7f", func := "flume/flumelaw05.ParamJoins", spec := "paramJoins", unfollowed := true, recurses := true, apart := false, narrowed := true }
def ParamJoinsUptoSaid : Prop := paramJoinsUptoRow.holds Try.pinned (OpenSpec.upto paramJoinsSpec)

/-- 'flumelaw05.ParamCuts', WHERE WHAT IT READS IS OF BULK AT MOST 1048576: true; the input reads as it did. -/
def paramCutsUptoRow : OpenClaim := { program := "ytoknjnaianhjaaa", sum := "00f095aab3e6face7ae96b19afd8db91f1ee026db1d4bfc7aaa76a495a282b7f", func := "flume/flumelaw05.ParamCuts", spec := "paramCuts", unfollowed := true, recurses := true, apart := false, narrowed := true }
def ParamCutsUptoSaid : Prop := paramCutsUptoRow.holds Try.pinned (OpenSpec.upto paramCutsSpec)

/-- 'flumelaw05.ParamTurns', WHERE WHAT IT READS IS OF BULK AT MOST 1048576: true; the input reads as it did. -/
def paramTurnsUptoRow : OpenClaim := { program := "ytoknjnaianhjaaa", sum := "00f095aab3e6face7ae96b19afd8db91f1ee026db1d4bfc7aaa76a495a282b7f", func := "flume/flumelaw05.ParamTurns", spec := "paramTurns", unfollowed := true, recurses := true, apart := false, narrowed := true }
def ParamTurnsUptoSaid : Prop := paramTurnsUptoRow.holds Try.pinned (OpenSpec.upto paramTurnsSpec)

/-- 'flumelaw05.ParamFinds', WHERE WHAT IT READS IS OF BULK AT MOST 1048576: true; the input reads as it did. -/
def paramFindsUptoRow : OpenClaim := { program := "ytoknjnaianhjaaa", sum := "00f095aab3e6face7ae96b19afd8db91f1ee026db1d4bfc7aaa76a495a282b7f", func := "flume/flumelaw05.ParamFinds", spec := "paramFinds", unfollowed := true, recurses := true, apart := false, narrowed := true }
def ParamFindsUptoSaid : Prop := paramFindsUptoRow.holds Try.pinned (OpenSpec.upto paramFindsSpec)

end Rows
end Go.Proofs.Ytoknjnaianhjaaa
