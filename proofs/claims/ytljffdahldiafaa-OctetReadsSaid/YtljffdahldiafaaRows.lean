/-
  No cell of these rows narrows 'for every input' (looked for: loops, veiled, ifaces, maps, wideKeys, modest, calm, conditions, laid).
  DERIVED. THE GIVEN ROWS OF THIS SEAT. 5 by the template 'for every input the law returns true; each argument reads behind the call as it read before'; 0 by the template 'total and deterministic' (their statements: YtljffdahldiafaaTotals.lean).
  GIVEN WITH THE SEED: the statements are not yours to turn. If you find one false, say at which input.
  Laid BY PROGRAM, IN A SANDBOX (cutbox-rows.mjs): the forced cells as the released guide's own fill.sh prints them over the translation 4f9eba70ce0da75d… (all of the seat's roots in one cut). By AI agents, Wed Nov 11 2026. No macro, syntax, notation, axiom, sorry.
-/
import Derived.Test.YtljffdahldiafaaChecked
import GoSem.Claim
import GoSem.ClaimJoined
import GoSem.ClaimMapViews
import Derived.JoinedTies
import Derived.KernelRfl
namespace Go.Proofs.Ytljffdahldiafaa
/- THE CELL 'sum', in the pinned program and in every row, IS THE sha256 OF THE DUMP (.gsa) THAT YtljffdahldiafaaProg.lean LOADS. Nothing in Lean hashes anything: it is a label: what it is worth is what the hold of that sum in a sandbox is worth. -/
noncomputable def Try.pinned : Pinned := { name := "ytljffdahldiafaa", sum := "4f9eba70ce0da75df42450fe8b33ce6360becca68187a68f1b47f91a1df02306", checked := Try.checked }
namespace Rows
def none {H : Type} : Left H := { results := [], args := [] }

/-- 'flumelaw04.OctetPads': WHATEVER THE INPUT: true; the input reads as it did. -/
def octetPadsSpec : ChangeSpec := { name := "octetPads", fn := fun _ => fun
  | [d1, d2] => { results := [.lit (.bool true)], args := [d1, d2] }
  | _ => none }
def octetPadsRow : OpenClaim := { program := "ytljffdahldiafaa", sum := "4f9eba70ce0da75df42450fe8b33ce6360becca68187a68f1b47f91a1df02306", func := "flume/flumelaw04.OctetPads", spec := "octetPads", apart := false }
def OctetPadsSaid : Prop := octetPadsRow.holds Try.pinned (OpenSpec.ofChange octetPadsSpec)

/-- ITS FALSE NEIGHBOUR: 'it returns false'. Refute it at one input. -/
def octetPadsWrong : ChangeSpec := { name := "octetPads", fn := fun _ => fun
  | [d1, d2] => { results := [.lit (.bool false)], args := [d1, d2] }
  | _ => none }
def OctetPadsWrongFalsely : Prop := octetPadsRow.holds Try.pinned (OpenSpec.ofChange octetPadsWrong)

/-- 'flumelaw04.OctetReads': WHATEVER THE INPUT: true; the input reads as it did. -/
def octetReadsSpec : ChangeSpec := { name := "octetReads", fn := fun _ => fun
  | [d1, d2] => { results := [.lit (.bool true)], args := [d1, d2] }
  | _ => none }
def octetReadsRow : OpenClaim := { program := "ytljffdahldiafaa", sum := "4f9eba70ce0da75df42450fe8b33ce6360becca68187a68f1b47f91a1df02306", func := "flume/flumelaw04.OctetReads", spec := "octetReads", apart := false }
def OctetReadsSaid : Prop := octetReadsRow.holds Try.pinned (OpenSpec.ofChange octetReadsSpec)

/-- ITS FALSE NEIGHBOUR: 'it returns false'. Refute it at one input. -/
def octetReadsWrong : ChangeSpec := { name := "octetReads", fn := fun _ => fun
  | [d1, d2] => { results := [.lit (.bool false)], args := [d1, d2] }
  | _ => none }
def OctetReadsWrongFalsely : Prop := octetReadsRow.holds Try.pinned (OpenSpec.ofChange octetReadsWrong)

/-- 'flumelaw04.OctetBad': WHATEVER THE INPUT: true; the input reads as it did. -/
def octetBadSpec : ChangeSpec := { name := "octetBad", fn := fun _ => fun
  | [d1, d2, d3] => { results := [.lit (.bool true)], args := [d1, d2, d3] }
  | _ => none }
def octetBadRow : OpenClaim := { program := "ytljffdahldiafaa", sum := "4f9eba70ce0da75df42450fe8b33ce6360becca68187a68f1b47f91a1df02306", func := "flume/flumelaw04.OctetBad", spec := "octetBad", apart := false }
def OctetBadSaid : Prop := octetBadRow.holds Try.pinned (OpenSpec.ofChange octetBadSpec)

/-- ITS FALSE NEIGHBOUR: 'it returns false'. Refute it at one input. -/
def octetBadWrong : ChangeSpec := { name := "octetBad", fn := fun _ => fun
  | [d1, d2, d3] => { results := [.lit (.bool false)], args := [d1, d2, d3] }
  | _ => none }
def OctetBadWrongFalsely : Prop := octetBadRow.holds Try.pinned (OpenSpec.ofChange octetBadWrong)

/-- 'flumelaw04.OctetWrites': WHATEVER THE INPUT: true; the input reads as it did. -/
def octetWritesSpec : ChangeSpec := { name := "octetWrites", fn := fun _ => fun
  | [d] => { results := [.lit (.bool true)], args := [d] }
  | _ => none }
def octetWritesRow : OpenClaim := { program := "ytljffdahldiafaa", sum := "4f9eba70ce0da75df42450fe8b33ce6360becca68187a68f1b47f91a1df02306", func := "flume/flumelaw04.OctetWrites", spec := "octetWrites", apart := false }
def OctetWritesSaid : Prop := octetWritesRow.holds Try.pinned (OpenSpec.ofChange octetWritesSpec)

/-- ITS FALSE NEIGHBOUR: 'it returns false'. Refute it at one input. -/
def octetWritesWrong : ChangeSpec := { name := "octetWrites", fn := fun _ => fun
  | [d] => { results := [.lit (.bool false)], args := [d] }
  | _ => none }
def OctetWritesWrongFalsely : Prop := octetWritesRow.holds Try.pinned (OpenSpec.ofChange octetWritesWrong)

/-- 'flumelaw04.OctetTwice': WHATEVER THE INPUT: true; the input reads as it did. -/
def octetTwiceSpec : ChangeSpec := { name := "octetTwice", fn := fun _ => fun
  | [d1, d2, d3] => { results := [.lit (.bool true)], args := [d1, d2, d3] }
  | _ => none }
def octetTwiceRow : OpenClaim := { program := "ytljffdahldiafaa", sum := "4f9eba70ce0da75df42450fe8b33ce6360becca68187a68f1b47f91a1df02306", func := "flume/flumelaw04.OctetTwice", spec := "octetTwice", apart := false }
def OctetTwiceSaid : Prop := octetTwiceRow.holds Try.pinned (OpenSpec.ofChange octetTwiceSpec)

/-- ITS FALSE NEIGHBOUR: 'it returns false'. Refute it at one input. -/
def octetTwiceWrong : ChangeSpec := { name := "octetTwice", fn := fun _ => fun
  | [d1, d2, d3] => { results := [.lit (.bool false)], args := [d1, d2, d3] }
  | _ => none }
def OctetTwiceWrongFalsely : Prop := octetTwiceRow.holds Try.pinned (OpenSpec.ofChange octetTwiceWrong)

/- THE SECOND FORM. 'bulk': how many values and letters a reading holds, each counted each time it is reached (what is shared counts as often as it is met; a slice's spare places count too). A statement '..UptoSaid' is the law's where the arguments, and the package variables that the reading takes, are together of bulk at most 1048576: NARROWER than '..Said'. Prove '..Said' where nothing that the law and all that it calls make is longer than what came in: it says more and counts as full. Else prove '..UptoSaid'. A law counts once. -/
mutual
def uptoBulk {H : Type} : DataW H → Nat
  | .lit (.string bytes) => bytes.length + 1
  | .lit _ => 1
  | .nil => 1
  | .ptr d => uptoBulk d + 1
  | .slice elems spare => uptoBulkAll elems + uptoBulkAll spare + 1
  | .agg parts => uptoBulkAll parts + 1
  | .iface _ d => uptoBulk d + 1
  | .map entries => uptoBulkEntries entries + 1
  | .held _ => 1
def uptoBulkAll {H : Type} : List (DataW H) → Nat
  | [] => 0
  | d :: r => uptoBulk d + uptoBulkAll r
def uptoBulkEntries {H : Type} : List (Lit × DataW H) → Nat
  | [] => 0
  | x :: r => uptoBulkEntry x + uptoBulkEntries r
def uptoBulkEntry {H : Type} : Lit × DataW H → Nat
  | (.string bytes, d) => bytes.length + uptoBulk d + 1
  | (_, d) => uptoBulk d + 1
 end
def uptoSmall : (H : Type) → List (DataW H) → Bool := fun _ ds => decide (uptoBulkAll ds ≤ 1048576)
def OpenSpec.upto (s : _root_.Go.ChangeSpec) : _root_.Go.OpenSpec := { _root_.Go.OpenSpec.ofChange s with cond := some uptoSmall }

/-- 'flumelaw04.OctetPads', WHERE WHAT IT READS IS OF BULK AT MOST 1048576: true; the input reads as it did. -/
def octetPadsUptoRow : OpenClaim := { program := "ytljffdahldiafaa", sum := "4f9eba70ce0da75df42450fe8b33ce6360becca68187a68f1b47f91a1df02306", func := "flume/flumelaw04.OctetPads", spec := "octetPads", apart := false, narrowed := true }
def OctetPadsUptoSaid : Prop := octetPadsUptoRow.holds Try.pinned (OpenSpec.upto octetPadsSpec)

/-- 'flumelaw04.OctetReads', WHERE WHAT IT READS IS OF BULK AT MOST 1048576: true; the input reads as it did. -/
def octetReadsUptoRow : OpenClaim := { program := "ytljffdahldiafaa", sum := "4f9eba70ce0da75df42450fe8b33ce6360becca68187a68f1b47f91a1df02306", func := "flume/flumelaw04.OctetReads", spec := "octetReads", apart := false, narrowed := true }
def OctetReadsUptoSaid : Prop := octetReadsUptoRow.holds Try.pinned (OpenSpec.upto octetReadsSpec)

/-- 'flumelaw04.OctetBad', WHERE WHAT IT READS IS OF BULK AT MOST 1048576: true; the input reads as it did. -/
def octetBadUptoRow : OpenClaim := { program := "ytljffdahldiafaa", sum := "4f9eba70ce0da75df42450fe8b33ce6360becca68187a68f1b47f91a1df02306", func := "flume/flumelaw04.OctetBad", spec := "octetBad", apart := false, narrowed := true }
def OctetBadUptoSaid : Prop := octetBadUptoRow.holds Try.pinned (OpenSpec.upto octetBadSpec)

/-- 'flumelaw04.OctetWrites', WHERE WHAT IT READS IS OF BULK AT MOST 1048576: true; the input reads as it did. -/
def octetWritesUptoRow : OpenClaim := { program := "ytljffdahldiafaa", sum := "4f9eba70ce0da75df42450fe8b33ce6360becca68187a68f1b47f91a1df02306", func := "flume/flumelaw04.OctetWrites", spec := "octetWrites", apart := false, narrowed := true }
def OctetWritesUptoSaid : Prop := octetWritesUptoRow.holds Try.pinned (OpenSpec.upto octetWritesSpec)

/-- 'flumelaw04.OctetTwice', WHERE WHAT IT READS IS OF BULK AT MOST 1048576: true; the input reads as it did. -/
def octetTwiceUptoRow : OpenClaim := { program := "ytljffdahldiafaa", sum := "4f9eba70ce0da75df42450fe8b33ce6360becca68187a68f1b47f91a1df02306", func := "flume/flumelaw04.OctetTwice", spec := "octetTwice", apart := false, narrowed := true }
def OctetTwiceUptoSaid : Prop := octetTwiceUptoRow.holds Try.pinned (OpenSpec.upto octetTwiceSpec)

end Rows
end Go.Proofs.Ytljffdahldiafaa
