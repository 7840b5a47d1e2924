/-
  No cell of these rows narrows 'for every input' (looked for: loops, veiled, ifaces, maps, wideKeys, modest, calm, conditions, laid).
  DERIVED. THE GIVEN ROWS OF THIS SEAT. 4 by the template 'for every input the law returns true; each argument reads behind the call as it read before'; 0 by the template 'total and deterministic' (their statements: YtpomlgohfgamoaaTotals.lean).
  GIVEN WITH THE SEED: the statements are not yours to turn. If you find one false, say at which input.
  Laid BY PROGRAM, IN A SANDBOX (cutbox-rows.mjs): the forced cells as the released guide's own fill.sh prints them over the translation 0b26d427d63d4e02… (all of the seat's roots in one cut). By AI agents, Wed Nov 11 2026. No macro, syntax, notation, axiom, sorry.
-/
import Derived.Test.YtpomlgohfgamoaaChecked
import GoSem.Claim
import GoSem.ClaimJoined
import GoSem.ClaimMapViews
import Derived.JoinedTies
import Derived.KernelRfl
namespace Go.Proofs.Ytpomlgohfgamoaa
/- THE CELL 'sum', in the pinned program and in every row, IS THE sha256 OF THE DUMP (.gsa) THAT YtpomlgohfgamoaaProg.lean LOADS. Nothing in Lean hashes anything: it is a label: what it is worth is what the hold of that sum in a sandbox is worth. -/
noncomputable def Try.pinned : Pinned := { name := "ytpomlgohfgamoaa", sum := "0b26d427d63d4e02b89b608d9313020ebab730044de5066d12b13cdf646aa49d", checked := Try.checked }
namespace Rows
def none {H : Type} : Left H := { results := [], args := [] }

/-- 'flumelaw11.WindRooms': WHATEVER THE INPUT: true; the input reads as it did. -/
def windRoomsSpec : ChangeSpec := { name := "windRooms", fn := fun _ => fun
  | [d1, d2] => { results := [.lit (.bool true)], args := [d1, d2] }
  | _ => none }
def windRoomsRow : OpenClaim := { program := "ytpomlgohfgamoaa", sum := "0b26d427d63d4e02b89b608d9313020ebab730044de5066d12b13cdf646aa49d", func := "flume/flumelaw11.WindRooms", spec := "windRooms", apart := false }
def WindRoomsSaid : Prop := windRoomsRow.holds Try.pinned (OpenSpec.ofChange windRoomsSpec)

/-- ITS FALSE NEIGHBOUR: 'it returns false'. Refute it at one input. -/
def windRoomsWrong : ChangeSpec := { name := "windRooms", fn := fun _ => fun
  | [d1, d2] => { results := [.lit (.bool false)], args := [d1, d2] }
  | _ => none }
def WindRoomsWrongFalsely : Prop := windRoomsRow.holds Try.pinned (OpenSpec.ofChange windRoomsWrong)

/-- 'flumelaw11.WindHalves': WHATEVER THE INPUT: true; the input reads as it did. -/
def windHalvesSpec : ChangeSpec := { name := "windHalves", fn := fun _ => fun
  | [d1, d2] => { results := [.lit (.bool true)], args := [d1, d2] }
  | _ => none }
def windHalvesRow : OpenClaim := { program := "ytpomlgohfgamoaa", sum := "0b26d427d63d4e02b89b608d9313020ebab730044de5066d12b13cdf646aa49d", func := "flume/flumelaw11.WindHalves", spec := "windHalves", apart := false }
def WindHalvesSaid : Prop := windHalvesRow.holds Try.pinned (OpenSpec.ofChange windHalvesSpec)

/-- ITS FALSE NEIGHBOUR: 'it returns false'. Refute it at one input. -/
def windHalvesWrong : ChangeSpec := { name := "windHalves", fn := fun _ => fun
  | [d1, d2] => { results := [.lit (.bool false)], args := [d1, d2] }
  | _ => none }
def WindHalvesWrongFalsely : Prop := windHalvesRow.holds Try.pinned (OpenSpec.ofChange windHalvesWrong)

/-- 'flumelaw11.WindPlays': WHATEVER THE INPUT: true; the input reads as it did. -/
def windPlaysSpec : ChangeSpec := { name := "windPlays", fn := fun _ => fun
  | [d] => { results := [.lit (.bool true)], args := [d] }
  | _ => none }
def windPlaysRow : OpenClaim := { program := "ytpomlgohfgamoaa", sum := "0b26d427d63d4e02b89b608d9313020ebab730044de5066d12b13cdf646aa49d", func := "flume/flumelaw11.WindPlays", spec := "windPlays", apart := false }
def WindPlaysSaid : Prop := windPlaysRow.holds Try.pinned (OpenSpec.ofChange windPlaysSpec)

/-- ITS FALSE NEIGHBOUR: 'it returns false'. Refute it at one input. -/
def windPlaysWrong : ChangeSpec := { name := "windPlays", fn := fun _ => fun
  | [d] => { results := [.lit (.bool false)], args := [d] }
  | _ => none }
def WindPlaysWrongFalsely : Prop := windPlaysRow.holds Try.pinned (OpenSpec.ofChange windPlaysWrong)

/-- 'flumelaw11.WindSlow': WHATEVER THE INPUT: true; the input reads as it did. -/
def windSlowSpec : ChangeSpec := { name := "windSlow", fn := fun _ => fun
  | [d] => { results := [.lit (.bool true)], args := [d] }
  | _ => none }
def windSlowRow : OpenClaim := { program := "ytpomlgohfgamoaa", sum := "0b26d427d63d4e02b89b608d9313020ebab730044de5066d12b13cdf646aa49d", func := "flume/flumelaw11.WindSlow", spec := "windSlow", apart := false }
def WindSlowSaid : Prop := windSlowRow.holds Try.pinned (OpenSpec.ofChange windSlowSpec)

/-- ITS FALSE NEIGHBOUR: 'it returns false'. Refute it at one input. -/
def windSlowWrong : ChangeSpec := { name := "windSlow", fn := fun _ => fun
  | [d] => { results := [.lit (.bool false)], args := [d] }
  | _ => none }
def WindSlowWrongFalsely : Prop := windSlowRow.holds Try.pinned (OpenSpec.ofChange windSlowWrong)

/- THE SECOND FORM. 'bulk': how many values and letters a reading holds, each counted each time it is reached (what is shared counts as often as it is met; a slice's spare places count too). A statement '..UptoSaid' is the law's where the arguments, and the package variables that the reading takes, are together of bulk at most 1048576: NARROWER than '..Said'. Prove '..Said' where nothing that the law and all that it calls make is longer than what came in: it says more and counts as full. Else prove '..UptoSaid'. A law counts once. -/
mutual
def uptoBulk {H : Type} : DataW H → Nat
  | .lit (.string bytes) => bytes.length + 1
  | .lit _ => 1
  | .nil => 1
  | .ptr d => uptoBulk d + 1
  | .slice elems spare => uptoBulkAll elems + uptoBulkAll spare + 1
  | .agg parts => uptoBulkAll parts + 1
  | .iface _ d => uptoBulk d + 1
  | .map entries => uptoBulkEntries entries + 1
  | .held _ => 1
def uptoBulkAll {H : Type} : List (DataW H) → Nat
  | [] => 0
  | d :: r => uptoBulk d + uptoBulkAll r
def uptoBulkEntries {H : Type} : List (Lit × DataW H) → Nat
  | [] => 0
  | x :: r => uptoBulkEntry x + uptoBulkEntries r
def uptoBulkEntry {H : Type} : Lit × DataW H → Nat
  | (.string bytes, d) => bytes.length + uptoBulk d + 1
  | (_, d) => uptoBulk d + 1
 end
def uptoSmall : (H : Type) → List (DataW H) → Bool := fun _ ds => decide (uptoBulkAll ds ≤ 1048576)
def OpenSpec.upto (s : _root_.Go.ChangeSpec) : _root_.Go.OpenSpec := { _root_.Go.OpenSpec.ofChange s with cond := some uptoSmall }

/-- 'flumelaw11.WindRooms', WHERE WHAT IT READS IS OF BULK AT MOST 1048576: true; the input reads as it did. -/
def windRoomsUptoRow : OpenClaim := { program := "ytpomlgohfgamoaa", sum := "0b26d427d63d4e02b89b608d9313020ebab730044de5066d12b13cdf646aa49d", func := "flume/flumelaw11.WindRooms", spec := "windRooms", apart := false, narrowed := true }
def WindRoomsUptoSaid : Prop := windRoomsUptoRow.holds Try.pinned (OpenSpec.upto windRoomsSpec)

/-- 'flumelaw11.WindHalves', WHERE WHAT IT READS IS OF BULK AT MOST 1048576: true; the input reads as it did. -/
def windHalvesUptoRow : OpenClaim := { program := "ytpomlgohfgamoaa", sum := "0b26d427d63d4e02b89b608d9313020ebab730044de5066d12b13cdf646aa49d", func := "flume/flumelaw11.WindHalves", spec := "windHalves", apart := false, narrowed := true }
def WindHalvesUptoSaid : Prop := windHalvesUptoRow.holds Try.pinned (OpenSpec.upto windHalvesSpec)

/-- 'flumelaw11.WindPlays', WHERE WHAT IT READS IS OF BULK AT MOST 1048576: true; the input reads as it did. -/
def windPlaysUptoRow : OpenClaim := { program := "ytpomlgohfgamoaa", sum := "0b26d427d63d4e02b89b608d9313020ebab730044de5066d12b13cdf646aa49d", func := "flume/flumelaw11.WindPlays", spec := "windPlays", apart := false, narrowed := true }
def WindPlaysUptoSaid : Prop := windPlaysUptoRow.holds Try.pinned (OpenSpec.upto windPlaysSpec)

/-- 'flumelaw11.WindSlow', WHERE WHAT IT READS IS OF BULK AT MOST 1048576: true; the input reads as it did. -/
def windSlowUptoRow : OpenClaim := { program := "ytpomlgohfgamoaa", sum := "0b26d427d63d4e02b89b608d9313020ebab730044de5066d12b13cdf646aa49d", func := "flume/flumelaw11.WindSlow", spec := "windSlow", apart := false, narrowed := true }
def WindSlowUptoSaid : Prop := windSlowUptoRow.holds Try.pinned (OpenSpec.upto windSlowSpec)

end Rows
end Go.Proofs.Ytpomlgohfgamoaa
