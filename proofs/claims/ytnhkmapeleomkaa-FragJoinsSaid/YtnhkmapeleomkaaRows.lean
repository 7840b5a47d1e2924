/-
  No cell of these rows narrows 'for every input' (looked for: loops, veiled, ifaces, maps, wideKeys, modest, calm, conditions, laid).
  DERIVED. THE GIVEN ROWS OF THIS SEAT. 4 by the template 'for every input the law returns true; each argument reads behind the call as it read before'; 0 by the template 'total and deterministic' (their statements: YtnhkmapeleomkaaTotals.lean).
  GIVEN WITH THE SEED: the statements are not yours to turn. If you find one false, say at which input.
  Laid BY PROGRAM, IN A SANDBOX (cutbox-rows.mjs): the forced cells as the released guide's own fill.sh prints them over the translation 6497462bd4acc0f4… (all of the seat's roots in one cut). By AI agents, Wed Nov 11 2026. No macro, syntax, notation, axiom, sorry.
-/
import Derived.Test.YtnhkmapeleomkaaChecked
import GoSem.Claim
import GoSem.ClaimJoined
import GoSem.ClaimMapViews
import Derived.JoinedTies
import Derived.KernelRfl
namespace Go.Proofs.Ytnhkmapeleomkaa
/- THE CELL 'sum', in the pinned program and in every row, IS THE sha256 OF THE DUMP (.gsa) THAT YtnhkmapeleomkaaProg.lean LOADS. Nothing in Lean hashes anything: it is a label: what it is worth is what the hold of that sum in a sandbox is worth. -/
noncomputable def Try.pinned : Pinned := { name := "ytnhkmapeleomkaa", sum := "6497462bd4acc0f4208ddd81be603e46a1d46bf604dfeb9bd05f12f0ca4b5e52", checked := Try.checked }
namespace Rows
def none {H : Type} : Left H := { results := [], args := [] }

/-- 'flumelaw12.FragCuts': WHATEVER THE INPUT: true; the input reads as it did. -/
def fragCutsSpec : ChangeSpec := { name := "fragCuts", fn := fun _ => fun
  | [d1, d2, d3] => { results := [.lit (.bool true)], args := [d1, d2, d3] }
  | _ => none }
def fragCutsRow : OpenClaim := { program := "ytnhkmapeleomkaa", sum := "6497462bd4acc0f4208ddd81be603e46a1d46bf604dfeb9bd05f12f0ca4b5e52", func := "flume/flumelaw12.FragCuts", spec := "fragCuts", unfollowed := true, recurses := true, apart := false }
def FragCutsSaid : Prop := fragCutsRow.holds Try.pinned (OpenSpec.ofChange fragCutsSpec)

/-- ITS FALSE NEIGHBOUR: 'it returns false'. Refute it at one input. -/
def fragCutsWrong : ChangeSpec := { name := "fragCuts", fn := fun _ => fun
  | [d1, d2, d3] => { results := [.lit (.bool false)], args := [d1, d2, d3] }
  | _ => none }
def FragCutsWrongFalsely : Prop := fragCutsRow.holds Try.pinned (OpenSpec.ofChange fragCutsWrong)

/-- 'flumelaw12.FragCounts': WHATEVER THE INPUT: true; the input reads as it did. -/
def fragCountsSpec : ChangeSpec := { name := "fragCounts", fn := fun _ => fun
  | [d1, d2] => { results := [.lit (.bool true)], args := [d1, d2] }
  | _ => none }
def fragCountsRow : OpenClaim := { program := "ytnhkmapeleomkaa", sum := "6497462bd4acc0f4208ddd81be603e46a1d46bf604dfeb9bd05f12f0ca4b5e52", func := "flume/flumelaw12.FragCounts", spec := "fragCounts", unfollowed := true, recurses := true, apart := false }
def FragCountsSaid : Prop := fragCountsRow.holds Try.pinned (OpenSpec.ofChange fragCountsSpec)

/-- ITS FALSE NEIGHBOUR: 'it returns false'. Refute it at one input. -/
def fragCountsWrong : ChangeSpec := { name := "fragCounts", fn := fun _ => fun
  | [d1, d2] => { results := [.lit (.bool false)], args := [d1, d2] }
  | _ => none }
def FragCountsWrongFalsely : Prop := fragCountsRow.holds Try.pinned (OpenSpec.ofChange fragCountsWrong)

/-- 'flumelaw12.FragAlike': WHATEVER THE INPUT: true; the input reads as it did. -/
def fragAlikeSpec : ChangeSpec := { name := "fragAlike", fn := fun _ => fun
  | [d1, d2] => { results := [.lit (.bool true)], args := [d1, d2] }
  | _ => none }
def fragAlikeRow : OpenClaim := { program := "ytnhkmapeleomkaa", sum := "6497462bd4acc0f4208ddd81be603e46a1d46bf604dfeb9bd05f12f0ca4b5e52", func := "flume/flumelaw12.FragAlike", spec := "fragAlike", unfollowed := true, recurses := true, apart := false }
def FragAlikeSaid : Prop := fragAlikeRow.holds Try.pinned (OpenSpec.ofChange fragAlikeSpec)

/-- ITS FALSE NEIGHBOUR: 'it returns false'. Refute it at one input. -/
def fragAlikeWrong : ChangeSpec := { name := "fragAlike", fn := fun _ => fun
  | [d1, d2] => { results := [.lit (.bool false)], args := [d1, d2] }
  | _ => none }
def FragAlikeWrongFalsely : Prop := fragAlikeRow.holds Try.pinned (OpenSpec.ofChange fragAlikeWrong)

/-- 'flumelaw12.FragJoins': WHATEVER THE INPUT: true; the input reads as it did. -/
def fragJoinsSpec : ChangeSpec := { name := "fragJoins", fn := fun _ => fun
  | [d1, d2, d3] => { results := [.lit (.bool true)], args := [d1, d2, d3] }
  | _ => none }
def fragJoinsRow : OpenClaim := { program := "ytnhkmapeleomkaa", sum := "6497462bd4acc0f4208ddd81be603e46a1d46bf604dfeb9bd05f12f0ca4b5e52", func := "flume/flumelaw12.FragJoins", spec := "fragJoins", unfollowed := true, recurses := true, apart := false }
def FragJoinsSaid : Prop := fragJoinsRow.holds Try.pinned (OpenSpec.ofChange fragJoinsSpec)

/-- ITS FALSE NEIGHBOUR: 'it returns false'. Refute it at one input. -/
def fragJoinsWrong : ChangeSpec := { name := "fragJoins", fn := fun _ => fun
  | [d1, d2, d3] => { results := [.lit (.bool false)], args := [d1, d2, d3] }
  | _ => none }
def FragJoinsWrongFalsely : Prop := fragJoinsRow.holds Try.pinned (OpenSpec.ofChange fragJoinsWrong)

/- THE SECOND FORM. 'bulk': how many values and letters a reading holds, each counted each time it is reached (what is shared counts as often as it is met; a slice's spare places count too). A statement '..UptoSaid' is the law's where the arguments, and the package variables that the reading takes, are together of bulk at most 1048576: NARROWER than '..Said'. Prove '..Said' where nothing that the law and all that it calls make is longer than what came in: it says more and counts as full. Else prove '..UptoSaid'. A law counts once. -/
mutual
def uptoBulk {H : Type} : DataW H → Nat
  | .lit (.string bytes) => bytes.length + 1
  | .lit _ => 1
  | .nil => 1
  | .ptr d => uptoBulk d + 1
  | .slice elems spare => uptoBulkAll elems + uptoBulkAll spare + 1
  | .agg parts => uptoBulkAll parts + 1
  | .iface _ d => uptoBulk d + 1
  | .map entries => uptoBulkEntries entries + 1
  | .held _ => 1
def uptoBulkAll {H : Type} : List (DataW H) → Nat
  | [] => 0
  | d :: r => uptoBulk d + uptoBulkAll r
def uptoBulkEntries {H : Type} : List (Lit × DataW H) → Nat
  | [] => 0
  | x :: r => uptoBulkEntry x + uptoBulkEntries r
def uptoBulkEntry {H : Type} : Lit × DataW H → Nat
  | (.string bytes, d) => bytes.length + uptoBulk d + 1
  | (_, d) => uptoBulk d + 1
 end
def uptoSmall : (H : Type) → List (DataW H) → Bool := fun _ ds => decide (uptoBulkAll ds ≤ 1048576)
def OpenSpec.upto (s : _root_.Go.ChangeSpec) : _root_.Go.OpenSpec := { _root_.Go.OpenSpec.ofChange s with cond := some uptoSmall }

/-- 'flumelaw12.FragCuts', WHERE WHAT IT READS IS OF BULK AT MOST 1048576: true; the input reads as it did. -/
def fragCutsUptoRow : OpenClaim := { program := "ytnhkmapeleomkaa", sum := "6497462bd4acc0f4208ddd81be603e46a1d46bf604dfeb9bd05f12f0ca4b5e52", func := "flume/flumelaw12.FragCuts", spec := "fragCuts", unfollowed := true, recurses := true, apart := false, narrowed := true }
def FragCutsUptoSaid : Prop := fragCutsUptoRow.holds Try.pinned (OpenSpec.upto fragCutsSpec)

/-- 'flumelaw12.FragCounts', WHERE WHAT IT READS IS OF BULK AT MOST 1048576: true; the input reads as it did. -/
def fragCountsUptoRow : OpenClaim := { program := "ytnhkmapeleomkaa", sum := "6497462bd4acc0f4208ddd81be603e46a1d46bf604dfeb9bd05f12f0ca4b5e52", func := "flume/flumelaw12.FragCounts", spec := "fragCounts", unfollowed := true, recurses := true, apart := false, narrowed := true }
def FragCountsUptoSaid : Prop := fragCountsUptoRow.holds Try.pinned (OpenSpec.upto fragCountsSpec)

/-- 'flumelaw12.FragAlike', WHERE WHAT IT READS IS OF BULK AT MOST 1048576: true; the input reads as it did. -/
def fragAlikeUptoRow : OpenClaim := { program := "ytnhkmapeleomkaa", sum := "6497462bd4acc0f4208ddd81be603e46a1d46bf604dfeb9bd05f12f0ca4b5e52", func := "flume/flumelaw12.FragAlike", spec := "fragAlike", unfollowed := true, recurses := true, apart := false, narrowed := true }
def FragAlikeUptoSaid : Prop := fragAlikeUptoRow.holds Try.pinned (OpenSpec.upto fragAlikeSpec)

/-- 'flumelaw12.FragJoins', WHERE WHAT IT READS IS OF BULK AT MOST 1048576: true; the input reads as it did. -/
def fragJoinsUptoRow : OpenClaim := { program := "ytnhkmapeleomkaa", sum := "6497462bd4acc0f4208ddd81be603e46a1d46bf604dfeb9bd05f12f0ca4b5e52", func := "flume/flumelaw12.FragJoins", spec := "fragJoins", unfollowed := true, recurses := true, apart := false, narrowed := true }
def FragJoinsUptoSaid : Prop := fragJoinsUptoRow.holds Try.pinned (OpenSpec.upto fragJoinsSpec)

end Rows
end Go.Proofs.Ytnhkmapeleomkaa
