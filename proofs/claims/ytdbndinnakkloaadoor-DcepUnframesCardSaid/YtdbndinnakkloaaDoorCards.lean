/-
  DERIVED. GIVEN WITH THE SEED: THE CARDS: each row of YtdbndinnakkloaaDoorRows.lean that lists a variable, with what it lists TIED to the program's text (the seventh form; the later family's looks); each row that meets fmt, with fmt's text TOLD by the authors' own Lean function (tested against real Go, not proved from fmt's source: count such statements apart). THE CARD IS WHAT COUNTS. Prove the row's statement (the work); the ties are given (YtdbndinnakkloaaDoorTie.lean); close each card by the builder's one call (the guide's Derived/Test/ToyasCard.lean, 'card_holds'). Laid BY PROGRAM, IN A SANDBOX (cutbox-door.mjs). By AI agents, Wed Nov 11 2026. No macro, syntax, notation, axiom, sorry.
-/
import Derived.Test.YtdbndinnakkloaaDoorRows
import GoSem.ClaimSeven
namespace Go.Proofs.YtdbndinnakkloaaDoor
namespace Rows

/-- THE TIED CARD OF 'flumelaw20.DcepReads'. -/
def dcepReadsCard : Claim7 := { stood := { row := dcepReadsRow, standIns := [], harness := (true, "2a3bd46970afdb14ce11719c30106bb0d9bc74b1de8778c18c8c14dfa5e68df5"), looks := false }, kinds := [], alts := [], laidByText := true, laidKinds := [.data, .pinned], laidTests := true, laidLooks := .later }
def DcepReadsCardSaid : Prop := Claim7.holds Tryd.pinned (.plain (OpenSpec.ofChange dcepReadsSpec)) dcepReadsCard

/-- THE TIED CARD OF 'flumelaw20.DcepCuts'. -/
def dcepCutsCard : Claim7 := { stood := { row := dcepCutsRow, standIns := [], harness := (true, "2a3bd46970afdb14ce11719c30106bb0d9bc74b1de8778c18c8c14dfa5e68df5"), looks := false }, kinds := [], alts := [], laidByText := true, laidKinds := [.data, .pinned], laidTests := true, laidLooks := .later }
def DcepCutsCardSaid : Prop := Claim7.holds Tryd.pinned (.plain (OpenSpec.ofChange dcepCutsSpec)) dcepCutsCard

/-- THE TIED CARD OF 'flumelaw20.DcepFrames'. -/
def dcepFramesCard : Claim7 := { stood := { row := dcepFramesRow, standIns := [], harness := (true, "2a3bd46970afdb14ce11719c30106bb0d9bc74b1de8778c18c8c14dfa5e68df5"), looks := false }, kinds := [], alts := [], laidByText := true, laidKinds := [.data, .pinned], laidTests := true, laidLooks := .later }
def DcepFramesCardSaid : Prop := Claim7.holds Tryd.pinned (.plain (OpenSpec.ofChange dcepFramesSpec)) dcepFramesCard

/-- THE TIED CARD OF 'flumelaw20.DcepUnframes'. -/
def dcepUnframesCard : Claim7 := { stood := { row := dcepUnframesRow, standIns := [], harness := (true, "2a3bd46970afdb14ce11719c30106bb0d9bc74b1de8778c18c8c14dfa5e68df5"), looks := false }, kinds := [], alts := [], laidByText := true, laidKinds := [.data, .pinned], laidTests := true, laidLooks := .later }
def DcepUnframesCardSaid : Prop := Claim7.holds Tryd.pinned (.plain (OpenSpec.ofChange dcepUnframesSpec)) dcepUnframesCard

/-- THE SECOND FORM's CARD OF 'flumelaw20.DcepReads'. -/
def dcepReadsUptoCard : Claim7 := { stood := { row := dcepReadsUptoRow, standIns := [], harness := (true, "2a3bd46970afdb14ce11719c30106bb0d9bc74b1de8778c18c8c14dfa5e68df5"), looks := false }, kinds := [], alts := [], laidByText := true, laidKinds := [.data, .pinned], laidTests := true, laidLooks := .later }
def DcepReadsUptoCardSaid : Prop := Claim7.holds Tryd.pinned (.plain (OpenSpec.upto dcepReadsSpec)) dcepReadsUptoCard

/-- THE SECOND FORM's CARD OF 'flumelaw20.DcepCuts'. -/
def dcepCutsUptoCard : Claim7 := { stood := { row := dcepCutsUptoRow, standIns := [], harness := (true, "2a3bd46970afdb14ce11719c30106bb0d9bc74b1de8778c18c8c14dfa5e68df5"), looks := false }, kinds := [], alts := [], laidByText := true, laidKinds := [.data, .pinned], laidTests := true, laidLooks := .later }
def DcepCutsUptoCardSaid : Prop := Claim7.holds Tryd.pinned (.plain (OpenSpec.upto dcepCutsSpec)) dcepCutsUptoCard

/-- THE SECOND FORM's CARD OF 'flumelaw20.DcepFrames'. -/
def dcepFramesUptoCard : Claim7 := { stood := { row := dcepFramesUptoRow, standIns := [], harness := (true, "2a3bd46970afdb14ce11719c30106bb0d9bc74b1de8778c18c8c14dfa5e68df5"), looks := false }, kinds := [], alts := [], laidByText := true, laidKinds := [.data, .pinned], laidTests := true, laidLooks := .later }
def DcepFramesUptoCardSaid : Prop := Claim7.holds Tryd.pinned (.plain (OpenSpec.upto dcepFramesSpec)) dcepFramesUptoCard

/-- THE SECOND FORM's CARD OF 'flumelaw20.DcepUnframes'. -/
def dcepUnframesUptoCard : Claim7 := { stood := { row := dcepUnframesUptoRow, standIns := [], harness := (true, "2a3bd46970afdb14ce11719c30106bb0d9bc74b1de8778c18c8c14dfa5e68df5"), looks := false }, kinds := [], alts := [], laidByText := true, laidKinds := [.data, .pinned], laidTests := true, laidLooks := .later }
def DcepUnframesUptoCardSaid : Prop := Claim7.holds Tryd.pinned (.plain (OpenSpec.upto dcepUnframesSpec)) dcepUnframesUptoCard
end Rows
end Go.Proofs.YtdbndinnakkloaaDoor
