/-
  No cell of these rows narrows 'for every input' (looked for: loops, veiled, ifaces, maps, wideKeys, modest, calm, conditions, laid).
  DERIVED. THE GIVEN ROWS OF THIS SEAT. 5 by the template 'for every input the law returns true; each argument reads behind the call as it read before'; 0 by the template 'total and deterministic' (their statements: YtpjlnnebknekcaaTotals.lean).
  GIVEN WITH THE SEED: the statements are not yours to turn. If you find one false, say at which input.
  Laid BY PROGRAM, IN A SANDBOX (cutbox-rows.mjs): the forced cells as the released guide's own fill.sh prints them over the translation 5a18a3ef80227bf2… (all of the seat's roots in one cut). By AI agents, Wed Nov 11 2026. No macro, syntax, notation, axiom, sorry.
-/
import Derived.Test.YtpjlnnebknekcaaChecked
import GoSem.Claim
import GoSem.ClaimJoined
import GoSem.ClaimMapViews
import Derived.JoinedTies
import Derived.KernelRfl
namespace Go.Proofs.Ytpjlnnebknekcaa
/- THE CELL 'sum', in the pinned program and in every row, IS THE sha256 OF THE DUMP (.gsa) THAT YtpjlnnebknekcaaProg.lean LOADS. Nothing in Lean hashes anything: it is a label: what it is worth is what the hold of that sum in a sandbox is worth. -/
noncomputable def Try.pinned : Pinned := { name := "ytpjlnnebknekcaa", sum := "5a18a3ef80227bf2c8aa5c0fc2090e26af64d84566f0874aafa439d9af4a242c", checked := Try.checked }
namespace Rows
def none {H : Type} : Left H := { results := [], args := [] }

/-- 'flumelaw10.RttBounds': WHATEVER THE INPUT: true; the input reads as it did. -/
def rttBoundsSpec : ChangeSpec := { name := "rttBounds", fn := fun _ => fun
  | [d] => { results := [.lit (.bool true)], args := [d] }
  | _ => none }
def rttBoundsRow : OpenClaim := { program := "ytpjlnnebknekcaa", sum := "5a18a3ef80227bf2c8aa5c0fc2090e26af64d84566f0874aafa439d9af4a242c", func := "flume/flumelaw10.RttBounds", spec := "rttBounds", apart := false }
def RttBoundsSaid : Prop := rttBoundsRow.holds Try.pinned (OpenSpec.ofChange rttBoundsSpec)

/-- ITS FALSE NEIGHBOUR: 'it returns false'. Refute it at one input. -/
def rttBoundsWrong : ChangeSpec := { name := "rttBounds", fn := fun _ => fun
  | [d] => { results := [.lit (.bool false)], args := [d] }
  | _ => none }
def RttBoundsWrongFalsely : Prop := rttBoundsRow.holds Try.pinned (OpenSpec.ofChange rttBoundsWrong)

/-- 'flumelaw10.RttSettles': WHATEVER THE INPUT: true; the input reads as it did. -/
def rttSettlesSpec : ChangeSpec := { name := "rttSettles", fn := fun _ => fun
  | [d1, d2] => { results := [.lit (.bool true)], args := [d1, d2] }
  | _ => none }
def rttSettlesRow : OpenClaim := { program := "ytpjlnnebknekcaa", sum := "5a18a3ef80227bf2c8aa5c0fc2090e26af64d84566f0874aafa439d9af4a242c", func := "flume/flumelaw10.RttSettles", spec := "rttSettles", apart := false }
def RttSettlesSaid : Prop := rttSettlesRow.holds Try.pinned (OpenSpec.ofChange rttSettlesSpec)

/-- ITS FALSE NEIGHBOUR: 'it returns false'. Refute it at one input. -/
def rttSettlesWrong : ChangeSpec := { name := "rttSettles", fn := fun _ => fun
  | [d1, d2] => { results := [.lit (.bool false)], args := [d1, d2] }
  | _ => none }
def RttSettlesWrongFalsely : Prop := rttSettlesRow.holds Try.pinned (OpenSpec.ofChange rttSettlesWrong)

/-- 'flumelaw10.RttOrder': WHATEVER THE INPUT: true; the input reads as it did. -/
def rttOrderSpec : ChangeSpec := { name := "rttOrder", fn := fun _ => fun
  | [d1, d2] => { results := [.lit (.bool true)], args := [d1, d2] }
  | _ => none }
def rttOrderRow : OpenClaim := { program := "ytpjlnnebknekcaa", sum := "5a18a3ef80227bf2c8aa5c0fc2090e26af64d84566f0874aafa439d9af4a242c", func := "flume/flumelaw10.RttOrder", spec := "rttOrder", apart := false }
def RttOrderSaid : Prop := rttOrderRow.holds Try.pinned (OpenSpec.ofChange rttOrderSpec)

/-- ITS FALSE NEIGHBOUR: 'it returns false'. Refute it at one input. -/
def rttOrderWrong : ChangeSpec := { name := "rttOrder", fn := fun _ => fun
  | [d1, d2] => { results := [.lit (.bool false)], args := [d1, d2] }
  | _ => none }
def RttOrderWrongFalsely : Prop := rttOrderRow.holds Try.pinned (OpenSpec.ofChange rttOrderWrong)

/-- 'flumelaw10.RttForgets': WHATEVER THE INPUT: true; the input reads as it did. -/
def rttForgetsSpec : ChangeSpec := { name := "rttForgets", fn := fun _ => fun
  | [d1, d2, d3] => { results := [.lit (.bool true)], args := [d1, d2, d3] }
  | _ => none }
def rttForgetsRow : OpenClaim := { program := "ytpjlnnebknekcaa", sum := "5a18a3ef80227bf2c8aa5c0fc2090e26af64d84566f0874aafa439d9af4a242c", func := "flume/flumelaw10.RttForgets", spec := "rttForgets", apart := false }
def RttForgetsSaid : Prop := rttForgetsRow.holds Try.pinned (OpenSpec.ofChange rttForgetsSpec)

/-- ITS FALSE NEIGHBOUR: 'it returns false'. Refute it at one input. -/
def rttForgetsWrong : ChangeSpec := { name := "rttForgets", fn := fun _ => fun
  | [d1, d2, d3] => { results := [.lit (.bool false)], args := [d1, d2, d3] }
  | _ => none }
def RttForgetsWrongFalsely : Prop := rttForgetsRow.holds Try.pinned (OpenSpec.ofChange rttForgetsWrong)

/-- 'flumelaw10.RttPlays': WHATEVER THE INPUT: true; the input reads as it did. -/
def rttPlaysSpec : ChangeSpec := { name := "rttPlays", fn := fun _ => fun
  | [d] => { results := [.lit (.bool true)], args := [d] }
  | _ => none }
def rttPlaysRow : OpenClaim := { program := "ytpjlnnebknekcaa", sum := "5a18a3ef80227bf2c8aa5c0fc2090e26af64d84566f0874aafa439d9af4a242c", func := "flume/flumelaw10.RttPlays", spec := "rttPlays", apart := false }
def RttPlaysSaid : Prop := rttPlaysRow.holds Try.pinned (OpenSpec.ofChange rttPlaysSpec)

/-- ITS FALSE NEIGHBOUR: 'it returns false'. Refute it at one input. -/
def rttPlaysWrong : ChangeSpec := { name := "rttPlays", fn := fun _ => fun
  | [d] => { results := [.lit (.bool false)], args := [d] }
  | _ => none }
def RttPlaysWrongFalsely : Prop := rttPlaysRow.holds Try.pinned (OpenSpec.ofChange rttPlaysWrong)

/- THE SECOND FORM. 'bulk': how many values and letters a reading holds, each counted each time it is reached (what is shared counts as often as it is met; a slice's spare places count too). A statement '..UptoSaid' is the law's where the arguments, and the package variables that the reading takes, are together of bulk at most 1048576: NARROWER than '..Said'. Prove '..Said' where nothing that the law and all that it calls make is longer than what came in: it says more and counts as full. Else prove '..UptoSaid'. A law counts once. -/
mutual
def uptoBulk {H : Type} : DataW H → Nat
  | .lit (.string bytes) => bytes.length + 1
  | .lit _ => 1
  | .nil => 1
  | .ptr d => uptoBulk d + 1
  | .slice elems spare => uptoBulkAll elems + uptoBulkAll spare + 1
  | .agg parts => uptoBulkAll parts + 1
  | .iface _ d => uptoBulk d + 1
  | .map entries => uptoBulkEntries entries + 1
  | .held _ => 1
def uptoBulkAll {H : Type} : List (DataW H) → Nat
  | [] => 0
  | d :: r => uptoBulk d + uptoBulkAll r
def uptoBulkEntries {H : Type} : List (Lit × DataW H) → Nat
  | [] => 0
  | x :: r => uptoBulkEntry x + uptoBulkEntries r
def uptoBulkEntry {H : Type} : Lit × DataW H → Nat
  | (.string bytes, d) => bytes.length + uptoBulk d + 1
  | (_, d) => uptoBulk d + 1
 end
def uptoSmall : (H : Type) → List (DataW H) → Bool := fun _ ds => decide (uptoBulkAll ds ≤ 1048576)
def OpenSpec.upto (s : _root_.Go.ChangeSpec) : _root_.Go.OpenSpec := { _root_.Go.OpenSpec.ofChange s with cond := some uptoSmall }

/-- 'flumelaw10.RttBounds', WHERE WHAT IT READS IS OF BULK AT MOST 1048576: true; the input reads as it did. -/
def rttBoundsUptoRow : OpenClaim := { program := "ytpjlnnebknekcaa", sum := "5a18a3ef80227bf2c8aa5c0fc2090e26af64d84566f0874aafa439d9af4a242c", func := "flume/flumelaw10.RttBounds", spec := "rttBounds", apart := false, narrowed := true }
def RttBoundsUptoSaid : Prop := rttBoundsUptoRow.holds Try.pinned (OpenSpec.upto rttBoundsSpec)

/-- 'flumelaw10.RttSettles', WHERE WHAT IT READS IS OF BULK AT MOST 1048576: true; the input reads as it did. -/
def rttSettlesUptoRow : OpenClaim := { program := "ytpjlnnebknekcaa", sum := "5a18a3ef80227bf2c8aa5c0fc2090e26af64d84566f0874aafa439d9af4a242c", func := "flume/flumelaw10.RttSettles", spec := "rttSettles", apart := false, narrowed := true }
def RttSettlesUptoSaid : Prop := rttSettlesUptoRow.holds Try.pinned (OpenSpec.upto rttSettlesSpec)

/-- 'flumelaw10.RttOrder', WHERE WHAT IT READS IS OF BULK AT MOST 1048576: true; the input reads as it did. -/
def rttOrderUptoRow : OpenClaim := { program := "ytpjlnnebknekcaa", sum := "5a18a3ef80227bf2c8aa5c0fc2090e26af64d84566f0874aafa439d9af4a242c", func := "flume/flumelaw10.RttOrder", spec := "rttOrder", apart := false, narrowed := true }
def RttOrderUptoSaid : Prop := rttOrderUptoRow.holds Try.pinned (OpenSpec.upto rttOrderSpec)

/-- 'flumelaw10.RttForgets', WHERE WHAT IT READS IS OF BULK AT MOST 1048576: true; the input reads as it did. -/
def rttForgetsUptoRow : OpenClaim := { program := "ytpjlnnebknekcaa", sum := "5a18a3ef80227bf2c8aa5c0fc2090e26af64d84566f0874aafa439d9af4a242c", func := "flume/flumelaw10.RttForgets", spec := "rttForgets", apart := false, narrowed := true }
def RttForgetsUptoSaid : Prop := rttForgetsUptoRow.holds Try.pinned (OpenSpec.upto rttForgetsSpec)

/-- 'flumelaw10.RttPlays', WHERE WHAT IT READS IS OF BULK AT MOST 1048576: true; the input reads as it did. -/
def rttPlaysUptoRow : OpenClaim := { program := "ytpjlnnebknekcaa", sum := "5a18a3ef80227bf2c8aa5c0fc2090e26af64d84566f0874aafa439d9af4a242c", func := "flume/flumelaw10.RttPlays", spec := "rttPlays", apart := false, narrowed := true }
def RttPlaysUptoSaid : Prop := rttPlaysUptoRow.holds Try.pinned (OpenSpec.upto rttPlaysSpec)

end Rows
end Go.Proofs.Ytpjlnnebknekcaa
