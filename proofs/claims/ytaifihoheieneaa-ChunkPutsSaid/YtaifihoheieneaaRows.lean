/-
  No cell of these rows narrows 'for every input' (looked for: loops, veiled, ifaces, maps, wideKeys, modest, calm, conditions, laid).
  DERIVED. THE GIVEN ROWS OF THIS SEAT. 7 by the template 'for every input the law returns true; each argument reads behind the call as it read before'; 0 by the template 'total and deterministic' (their statements: YtaifihoheieneaaTotals.lean).
  GIVEN WITH THE SEED: the statements are not yours to turn. If you find one false, say at which input.
  Laid BY PROGRAM, IN A SANDBOX (cutbox-rows.mjs): the forced cells as the released guide's own fill.sh prints them over the translation c5258f76a6019fce… (all of the seat's roots in one cut). By AI agents, Wed Nov 11 2026. No macro, syntax, notation, axiom, sorry.
-/
import Derived.Test.YtaifihoheieneaaChecked
import GoSem.Claim
import GoSem.ClaimJoined
import GoSem.ClaimMapViews
import Derived.JoinedTies
import Derived.KernelRfl
namespace Go.Proofs.Ytaifihoheieneaa
/- THE CELL 'sum', in the pinned program and in every row, IS THE sha256 OF THE DUMP (.gsa) THAT YtaifihoheieneaaProg.lean LOADS. Nothing in Lean hashes anything: it is a label: what it is worth is what the hold of that sum in a sandbox is worth. -/
noncomputable def Try.pinned : Pinned := { name := "ytaifihoheieneaa", sum := "c5258f76a6019fce8219c9472d30de864879a0ed75988410499b0dd490ad94ab", checked := Try.checked }
namespace Rows
def none {H : Type} : Left H := { results := [], args := [] }

/-- 'flumelaw06.ChunkPuts': WHATEVER THE INPUT: true; the input reads as it did. -/
def chunkPutsSpec : ChangeSpec := { name := "chunkPuts", fn := fun _ => fun
  | [d1, d2] => { results := [.lit (.bool true)], args := [d1, d2] }
  | _ => none }
def chunkPutsRow : OpenClaim := { program := "ytaifihoheieneaa", sum := "c5258f76a6019fce8219c9472d30de864879a0ed75988410499b0dd490ad94ab", func := "flume/flumelaw06.ChunkPuts", spec := "chunkPuts", unfollowed := true, recurses := true, apart := false }
def ChunkPutsSaid : Prop := chunkPutsRow.holds Try.pinned (OpenSpec.ofChange chunkPutsSpec)

/-- ITS FALSE NEIGHBOUR: 'it returns false'. Refute it at one input. -/
def chunkPutsWrong : ChangeSpec := { name := "chunkPuts", fn := fun _ => fun
  | [d1, d2] => { results := [.lit (.bool false)], args := [d1, d2] }
  | _ => none }
def ChunkPutsWrongFalsely : Prop := chunkPutsRow.holds Try.pinned (OpenSpec.ofChange chunkPutsWrong)

/-- 'flumelaw06.ChunkGets': WHATEVER THE INPUT: true; the input reads as it did. -/
def chunkGetsSpec : ChangeSpec := { name := "chunkGets", fn := fun _ => fun
  | [d] => { results := [.lit (.bool true)], args := [d] }
  | _ => none }
def chunkGetsRow : OpenClaim := { program := "ytaifihoheieneaa", sum := "c5258f76a6019fce8219c9472d30de864879a0ed75988410499b0dd490ad94ab", func := "flume/flumelaw06.ChunkGets", spec := "chunkGets", unfollowed := true, recurses := true, apart := false }
def ChunkGetsSaid : Prop := chunkGetsRow.holds Try.pinned (OpenSpec.ofChange chunkGetsSpec)

/-- ITS FALSE NEIGHBOUR: 'it returns false'. Refute it at one input. -/
def chunkGetsWrong : ChangeSpec := { name := "chunkGets", fn := fun _ => fun
  | [d] => { results := [.lit (.bool false)], args := [d] }
  | _ => none }
def ChunkGetsWrongFalsely : Prop := chunkGetsRow.holds Try.pinned (OpenSpec.ofChange chunkGetsWrong)

/-- 'flumelaw06.ChunkCuts': WHATEVER THE INPUT: true; the input reads as it did. -/
def chunkCutsSpec : ChangeSpec := { name := "chunkCuts", fn := fun _ => fun
  | [d1, d2, d3] => { results := [.lit (.bool true)], args := [d1, d2, d3] }
  | _ => none }
def chunkCutsRow : OpenClaim := { program := "ytaifihoheieneaa", sum := "c5258f76a6019fce8219c9472d30de864879a0ed75988410499b0dd490ad94ab", func := "flume/flumelaw06.ChunkCuts", spec := "chunkCuts", unfollowed := true, recurses := true, apart := false }
def ChunkCutsSaid : Prop := chunkCutsRow.holds Try.pinned (OpenSpec.ofChange chunkCutsSpec)

/-- ITS FALSE NEIGHBOUR: 'it returns false'. Refute it at one input. -/
def chunkCutsWrong : ChangeSpec := { name := "chunkCuts", fn := fun _ => fun
  | [d1, d2, d3] => { results := [.lit (.bool false)], args := [d1, d2, d3] }
  | _ => none }
def ChunkCutsWrongFalsely : Prop := chunkCutsRow.holds Try.pinned (OpenSpec.ofChange chunkCutsWrong)

/-- 'flumelaw06.ChunkFlags': WHATEVER THE INPUT: true; the input reads as it did. -/
def chunkFlagsSpec : ChangeSpec := { name := "chunkFlags", fn := fun _ => fun
  | [d1, d2] => { results := [.lit (.bool true)], args := [d1, d2] }
  | _ => none }
def chunkFlagsRow : OpenClaim := { program := "ytaifihoheieneaa", sum := "c5258f76a6019fce8219c9472d30de864879a0ed75988410499b0dd490ad94ab", func := "flume/flumelaw06.ChunkFlags", spec := "chunkFlags", unfollowed := true, recurses := true, apart := false }
def ChunkFlagsSaid : Prop := chunkFlagsRow.holds Try.pinned (OpenSpec.ofChange chunkFlagsSpec)

/-- ITS FALSE NEIGHBOUR: 'it returns false'. Refute it at one input. -/
def chunkFlagsWrong : ChangeSpec := { name := "chunkFlags", fn := fun _ => fun
  | [d1, d2] => { results := [.lit (.bool false)], args := [d1, d2] }
  | _ => none }
def ChunkFlagsWrongFalsely : Prop := chunkFlagsRow.holds Try.pinned (OpenSpec.ofChange chunkFlagsWrong)

/-- 'flumelaw06.ChunkSizes': WHATEVER THE INPUT: true; the input reads as it did. -/
def chunkSizesSpec : ChangeSpec := { name := "chunkSizes", fn := fun _ => fun
  | [d] => { results := [.lit (.bool true)], args := [d] }
  | _ => none }
def chunkSizesRow : OpenClaim := { program := "ytaifihoheieneaa", sum := "c5258f76a6019fce8219c9472d30de864879a0ed75988410499b0dd490ad94ab", func := "flume/flumelaw06.ChunkSizes", spec := "chunkSizes", unfollowed := true, recurses := true, apart := false }
def ChunkSizesSaid : Prop := chunkSizesRow.holds Try.pinned (OpenSpec.ofChange chunkSizesSpec)

/-- ITS FALSE NEIGHBOUR: 'it returns false'. Refute it at one input. -/
def chunkSizesWrong : ChangeSpec := { name := "chunkSizes", fn := fun _ => fun
  | [d] => { results := [.lit (.bool false)], args := [d] }
  | _ => none }
def ChunkSizesWrongFalsely : Prop := chunkSizesRow.holds Try.pinned (OpenSpec.ofChange chunkSizesWrong)

/-- 'flumelaw06.ChunkBare': WHATEVER THE INPUT: true; the input reads as it did. -/
def chunkBareSpec : ChangeSpec := { name := "chunkBare", fn := fun _ => fun
  | [d1, d2] => { results := [.lit (.bool true)], args := [d1, d2] }
  | _ => none }
def chunkBareRow : OpenClaim := { program := "ytaifihoheieneaa", sum := "c5258f76a6019fce8219c9472d30de864879a0ed75988410499b0dd490ad94ab", func := "flume/flumelaw06.ChunkBare", spec := "chunkBare", unfollowed := true, recurses := true, apart := false }
def ChunkBareSaid : Prop := chunkBareRow.holds Try.pinned (OpenSpec.ofChange chunkBareSpec)

/-- ITS FALSE NEIGHBOUR: 'it returns false'. Refute it at one input. -/
def chunkBareWrong : ChangeSpec := { name := "chunkBare", fn := fun _ => fun
  | [d1, d2] => { results := [.lit (.bool false)], args := [d1, d2] }
  | _ => none }
def ChunkBareWrongFalsely : Prop := chunkBareRow.holds Try.pinned (OpenSpec.ofChange chunkBareWrong)

/-- 'flumelaw06.ChunkRows': WHATEVER THE INPUT: true; the input reads as it did. -/
def chunkRowsSpec : ChangeSpec := { name := "chunkRows", fn := fun _ => fun
  | [d] => { results := [.lit (.bool true)], args := [d] }
  | _ => none }
def chunkRowsRow : OpenClaim := { program := "ytaifihoheieneaa", sum := "c5258f76a6019fce8219c9472d30de864879a0ed75988410499b0dd490ad94ab", func := "flume/flumelaw06.ChunkRows", spec := "chunkRows", unfollowed := true, recurses := true, apart := false }
def ChunkRowsSaid : Prop := chunkRowsRow.holds Try.pinned (OpenSpec.ofChange chunkRowsSpec)

/-- ITS FALSE NEIGHBOUR: 'it returns false'. Refute it at one input. -/
def chunkRowsWrong : ChangeSpec := { name := "chunkRows", fn := fun _ => fun
  | [d] => { results := [.lit (.bool false)], args := [d] }
  | _ => none }
def ChunkRowsWrongFalsely : Prop := chunkRowsRow.holds Try.pinned (OpenSpec.ofChange chunkRowsWrong)

/- THE SECOND FORM. 'bulk': how many values and letters a reading holds, each counted each time it is reached (what is shared counts as often as it is met; a slice's spare places count too). A statement '..UptoSaid' is the law's where the arguments, and the package variables that the reading takes, are together of bulk at most 1048576: NARROWER than '..Said'. Prove '..Said' where nothing that the law and all that it calls make is longer than what came in: it says more and counts as full. Else prove '..UptoSaid'. A law counts once. -/
mutual
def uptoBulk {H : Type} : DataW H → Nat
  | .lit (.string bytes) => bytes.length + 1
  | .lit _ => 1
  | .nil => 1
  | .ptr d => uptoBulk d + 1
  | .slice elems spare => uptoBulkAll elems + uptoBulkAll spare + 1
  | .agg parts => uptoBulkAll parts + 1
  | .iface _ d => uptoBulk d + 1
  | .map entries => uptoBulkEntries entries + 1
  | .held _ => 1
def uptoBulkAll {H : Type} : List (DataW H) → Nat
  | [] => 0
  | d :: r => uptoBulk d + uptoBulkAll r
def uptoBulkEntries {H : Type} : List (Lit × DataW H) → Nat
  | [] => 0
  | x :: r => uptoBulkEntry x + uptoBulkEntries r
def uptoBulkEntry {H : Type} : Lit × DataW H → Nat
  | (.string bytes, d) => bytes.length + uptoBulk d + 1
  | (_, d) => uptoBulk d + 1
 end
def uptoSmall : (H : Type) → List (DataW H) → Bool := fun _ ds => decide (uptoBulkAll ds ≤ 1048576)
def OpenSpec.upto (s : _root_.Go.ChangeSpec) : _root_.Go.OpenSpec := { _root_.Go.OpenSpec.ofChange s with cond := some uptoSmall }

/-- 'flumelaw06.ChunkPuts', WHERE WHAT IT READS IS OF BULK AT MOST 1048576: true; the input reads as it did. -/
def chunkPutsUptoRow : OpenClaim := { program := "ytaifihoheieneaa", sum := "c5258f76a6019fce8219c9472d30de864879a0ed75988410499b0dd490ad94ab", func := "flume/flumelaw06.ChunkPuts", spec := "chunkPuts", unfollowed := true, recurses := true, apart := false, narrowed := true }
def ChunkPutsUptoSaid : Prop := chunkPutsUptoRow.holds Try.pinned (OpenSpec.upto chunkPutsSpec)

/-- 'flumelaw06.ChunkGets', WHERE WHAT IT READS IS OF BULK AT MOST 1048576: true; the input reads as it did. -/
def chunkGetsUptoRow : OpenClaim := { program := "ytaifihoheieneaa", sum := "c5258f76a6019fce8219c9472d30de864879a0ed75988410499b0dd490ad94ab", func := "flume/flumelaw06.ChunkGets", spec := "chunkGets", unfollowed := true, recurses := true, apart := false, narrowed := true }
def ChunkGetsUptoSaid : Prop := chunkGetsUptoRow.holds Try.pinned (OpenSpec.upto chunkGetsSpec)

/-- 'flumelaw06.ChunkCuts', WHERE WHAT IT READS IS OF BULK AT MOST 1048576: true; the input reads as it did. -/
def chunkCutsUptoRow : OpenClaim := { program := "ytaifihoheieneaa", sum := "c5258f76a6019fce8219c9472d30de864879a0ed75988410499b0dd490ad94ab", func := "flume/flumelaw06.ChunkCuts", spec := "chunkCuts", unfollowed := true, recurses := true, apart := false, narrowed := true }
def ChunkCutsUptoSaid : Prop := chunkCutsUptoRow.holds Try.pinned (OpenSpec.upto chunkCutsSpec)

/-- 'flumelaw06.ChunkFlags', WHERE WHAT IT READS IS OF BULK AT MOST 1048576: true; the input reads as it did. -/
def chunkFlagsUptoRow : OpenClaim := { program := "ytaifihoheieneaa", sum := "c5258f76a6019fce8219c9472d30de864879a0ed75988410499b0dd490ad94ab", func := "flume/flumelaw06.ChunkFlags", spec := "chunkFlags", unfollowed := true, recurses := true, apart := false, narrowed := true }
def ChunkFlagsUptoSaid : Prop := chunkFlagsUptoRow.holds Try.pinned (OpenSpec.upto chunkFlagsSpec)

/-- 'flumelaw06.ChunkSizes', WHERE WHAT IT READS IS OF BULK AT MOST 1048576: true; the input reads as it did. -/
def chunkSizesUptoRow : OpenClaim := { program := "ytaifihoheieneaa", sum := "c5258f76a6019fce8219c9472d30de864879a0ed75988410499b0dd490ad94ab", func := "flume/flumelaw06.ChunkSizes", spec := "chunkSizes", unfollowed := true, recurses := true, apart := false, narrowed := true }
def ChunkSizesUptoSaid : Prop := chunkSizesUptoRow.holds Try.pinned (OpenSpec.upto chunkSizesSpec)

/-- 'flumelaw06.ChunkBare', WHERE WHAT IT READS IS OF BULK AT MOST 1048576: true; the input reads as it did. -/
def chunkBareUptoRow : OpenClaim := { program := "ytaifihoheieneaa", sum := "c5258f76a6019fce8219c9472d30de864879a0ed75988410499b0dd490ad94ab", func := "flume/flumelaw06.ChunkBare", spec := "chunkBare", unfollowed := true, recurses := true, apart := false, narrowed := true }
def ChunkBareUptoSaid : Prop := chunkBareUptoRow.holds Try.pinned (OpenSpec.upto chunkBareSpec)

/-- 'flumelaw06.ChunkRows', WHERE WHAT IT READS IS OF BULK AT MOST 1048576: true; the input reads as it did. -/
def chunkRowsUptoRow : OpenClaim := { program := "ytaifihoheieneaa", sum := "c5258f76a6019fce8219c9472d30de864879a0ed75988410499b0dd490ad94ab", func := "flume/flumelaw06.ChunkRows", spec := "chunkRows", unfollowed := true, recurses := true, apart := false, narrowed := true }
def ChunkRowsUptoSaid : Prop := chunkRowsUptoRow.holds Try.pinned (OpenSpec.upto chunkRowsSpec)

end Rows
end Go.Proofs.Ytaifihoheieneaa
