/-
  DERIVED. GIVEN WITH THE SEED: THE CARDS: each row of YtpfepkkpbampkaaDoorRows.lean that lists a variable, with what it lists TIED to the program's text (the seventh form; the later family's looks); each row that meets fmt, with fmt's text TOLD by the authors' own Lean function (tested against real Go, not proved from fmt's source: count such statements apart). THE CARD IS WHAT COUNTS. Prove the row's statement (the work); the ties are given (YtpfepkkpbampkaaDoorTie.lean); close each card by the builder's one call (the guide's Derived/Test/ToyasCard.lean, 'card_holds'). Laid BY PROGRAM, IN A SANDBOX (cutbox-door.mjs). By AI agents, Wed Nov 11 2026. No macro, syntax, notation, axiom, sorry.
-/
import Derived.Test.YtpfepkkpbampkaaDoorRows
import GoSem.ClaimSeven
namespace Go.Proofs.YtpfepkkpbampkaaDoor
namespace Rows

/-- THE TIED CARD OF 'blazonlaw14.LatticeAlls'. -/
def latticeAllsCard : Claim7 := { stood := { row := latticeAllsRow, standIns := [], harness := (true, "74622ce580f42d7679b3f1b99dba5767b9d65d84d5b6a6f27581c9318c0d92c8"), looks := false }, kinds := [], alts := [], laidByText := true, laidKinds := [.data], laidTests := true, laidLooks := .later }
def LatticeAllsCardSaid : Prop := Claim7.holds Tryd.pinned (.plain (OpenSpec.ofChange latticeAllsSpec)) latticeAllsCard

/-- THE TIED CARD OF 'blazonlaw14.LatticeLaws'. -/
def latticeLawsCard : Claim7 := { stood := { row := latticeLawsRow, standIns := [], harness := (true, "74622ce580f42d7679b3f1b99dba5767b9d65d84d5b6a6f27581c9318c0d92c8"), looks := false }, kinds := [], alts := [], laidByText := true, laidKinds := [.data], laidTests := true, laidLooks := .later }
def LatticeLawsCardSaid : Prop := Claim7.holds Tryd.pinned (.plain (OpenSpec.ofChange latticeLawsSpec)) latticeLawsCard

/-- THE TIED CARD OF 'blazonlaw14.LatticeNews'. -/
def latticeNewsCard : Claim7 := { stood := { row := latticeNewsRow, standIns := [], harness := (true, "74622ce580f42d7679b3f1b99dba5767b9d65d84d5b6a6f27581c9318c0d92c8"), looks := false }, kinds := [], alts := [], laidByText := true, laidKinds := [.data], laidTests := true, laidLooks := .later }
def LatticeNewsCardSaid : Prop := Claim7.holds Tryd.pinned (.plain (OpenSpec.ofChange latticeNewsSpec)) latticeNewsCard

/-- THE TIED CARD OF 'blazonlaw14.LatticeTurned'. -/
def latticeTurnedCard : Claim7 := { stood := { row := latticeTurnedRow, standIns := [], harness := (true, "74622ce580f42d7679b3f1b99dba5767b9d65d84d5b6a6f27581c9318c0d92c8"), looks := false }, kinds := [], alts := [], laidByText := true, laidKinds := [.data], laidTests := true, laidLooks := .later }
def LatticeTurnedCardSaid : Prop := Claim7.holds Tryd.pinned (.plain (OpenSpec.ofChange latticeTurnedSpec)) latticeTurnedCard

/-- THE TIED CARD OF 'blazonlaw14.LatticeNil'. -/
def latticeNilCard : Claim7 := { stood := { row := latticeNilRow, standIns := [], harness := (true, "74622ce580f42d7679b3f1b99dba5767b9d65d84d5b6a6f27581c9318c0d92c8"), looks := false }, kinds := [], alts := [], laidByText := true, laidKinds := [.data], laidTests := true, laidLooks := .later }
def LatticeNilCardSaid : Prop := Claim7.holds Tryd.pinned (.plain (OpenSpec.ofChange latticeNilSpec)) latticeNilCard

/-- THE TIED CARD OF 'blazonlaw15.IrredDowns'. -/
def irredDownsCard : Claim7 := { stood := { row := irredDownsRow, standIns := [], harness := (true, "74622ce580f42d7679b3f1b99dba5767b9d65d84d5b6a6f27581c9318c0d92c8"), looks := false }, kinds := [], alts := [], laidByText := true, laidKinds := [.data], laidTests := true, laidLooks := .later }
def IrredDownsCardSaid : Prop := Claim7.holds Tryd.pinned (.plain (OpenSpec.ofChange irredDownsSpec)) irredDownsCard

/-- THE TIED CARD OF 'blazonlaw15.IrredSets'. -/
def irredSetsCard : Claim7 := { stood := { row := irredSetsRow, standIns := [], harness := (true, "74622ce580f42d7679b3f1b99dba5767b9d65d84d5b6a6f27581c9318c0d92c8"), looks := false }, kinds := [], alts := [], laidByText := true, laidKinds := [.data], laidTests := true, laidLooks := .later }
def IrredSetsCardSaid : Prop := Claim7.holds Tryd.pinned (.plain (OpenSpec.ofChange irredSetsSpec)) irredSetsCard

/-- THE TIED CARD OF 'blazonlaw15.IrredFar'. -/
def irredFarCard : Claim7 := { stood := { row := irredFarRow, standIns := [], harness := (true, "74622ce580f42d7679b3f1b99dba5767b9d65d84d5b6a6f27581c9318c0d92c8"), looks := false }, kinds := [], alts := [], laidByText := true, laidKinds := [.data], laidTests := true, laidLooks := .later }
def IrredFarCardSaid : Prop := Claim7.holds Tryd.pinned (.plain (OpenSpec.ofChange irredFarSpec)) irredFarCard

/-- THE TIED CARD OF 'blazonlaw15.IrredWhole'. -/
def irredWholeCard : Claim7 := { stood := { row := irredWholeRow, standIns := [], harness := (true, "74622ce580f42d7679b3f1b99dba5767b9d65d84d5b6a6f27581c9318c0d92c8"), looks := false }, kinds := [], alts := [], laidByText := true, laidKinds := [.data], laidTests := true, laidLooks := .later }
def IrredWholeCardSaid : Prop := Claim7.holds Tryd.pinned (.plain (OpenSpec.ofChange irredWholeSpec)) irredWholeCard

/-- THE TIED CARD OF 'blazonlaw15.IrredNil'. -/
def irredNilCard : Claim7 := { stood := { row := irredNilRow, standIns := [], harness := (true, "74622ce580f42d7679b3f1b99dba5767b9d65d84d5b6a6f27581c9318c0d92c8"), looks := false }, kinds := [], alts := [], laidByText := true, laidKinds := [.data], laidTests := true, laidLooks := .later }
def IrredNilCardSaid : Prop := Claim7.holds Tryd.pinned (.plain (OpenSpec.ofChange irredNilSpec)) irredNilCard

/-- THE SECOND FORM's CARD OF 'blazonlaw14.LatticeAlls'. -/
def latticeAllsUptoCard : Claim7 := { stood := { row := latticeAllsUptoRow, standIns := [], harness := (true, "74622ce580f42d7679b3f1b99dba5767b9d65d84d5b6a6f27581c9318c0d92c8"), looks := false }, kinds := [], alts := [], laidByText := true, laidKinds := [.data], laidTests := true, laidLooks := .later }
def LatticeAllsUptoCardSaid : Prop := Claim7.holds Tryd.pinned (.plain (OpenSpec.upto latticeAllsSpec)) latticeAllsUptoCard

/-- THE SECOND FORM's CARD OF 'blazonlaw14.LatticeLaws'. -/
def latticeLawsUptoCard : Claim7 := { stood := { row := latticeLawsUptoRow, standIns := [], harness := (true, "74622ce580f42d7679b3f1b99dba5767b9d65d84d5b6a6f27581c9318c0d92c8"), looks := false }, kinds := [], alts := [], laidByText := true, laidKinds := [.data], laidTests := true, laidLooks := .later }
def LatticeLawsUptoCardSaid : Prop := Claim7.holds Tryd.pinned (.plain (OpenSpec.upto latticeLawsSpec)) latticeLawsUptoCard

/-- THE SECOND FORM's CARD OF 'blazonlaw14.LatticeNews'. -/
def latticeNewsUptoCard : Claim7 := { stood := { row := latticeNewsUptoRow, standIns := [], harness := (true, "74622ce580f42d7679b3f1b99dba5767b9d65d84d5b6a6f27581c9318c0d92c8"), looks := false }, kinds := [], alts := [], laidByText := true, laidKinds := [.data], laidTests := true, laidLooks := .later }
def LatticeNewsUptoCardSaid : Prop := Claim7.holds Tryd.pinned (.plain (OpenSpec.upto latticeNewsSpec)) latticeNewsUptoCard

/-- THE SECOND FORM's CARD OF 'blazonlaw14.LatticeTurned'. -/
def latticeTurnedUptoCard : Claim7 := { stood := { row := latticeTurnedUptoRow, standIns := [], harness := (true, "74622ce580f42d7679b3f1b99dba5767b9d65d84d5b6a6f27581c9318c0d92c8"), looks := false }, kinds := [], alts := [], laidByText := true, laidKinds := [.data], laidTests := true, laidLooks := .later }
def LatticeTurnedUptoCardSaid : Prop := Claim7.holds Tryd.pinned (.plain (OpenSpec.upto latticeTurnedSpec)) latticeTurnedUptoCard

/-- THE SECOND FORM's CARD OF 'blazonlaw14.LatticeNil'. -/
def latticeNilUptoCard : Claim7 := { stood := { row := latticeNilUptoRow, standIns := [], harness := (true, "74622ce580f42d7679b3f1b99dba5767b9d65d84d5b6a6f27581c9318c0d92c8"), looks := false }, kinds := [], alts := [], laidByText := true, laidKinds := [.data], laidTests := true, laidLooks := .later }
def LatticeNilUptoCardSaid : Prop := Claim7.holds Tryd.pinned (.plain (OpenSpec.upto latticeNilSpec)) latticeNilUptoCard

/-- THE SECOND FORM's CARD OF 'blazonlaw15.IrredDowns'. -/
def irredDownsUptoCard : Claim7 := { stood := { row := irredDownsUptoRow, standIns := [], harness := (true, "74622ce580f42d7679b3f1b99dba5767b9d65d84d5b6a6f27581c9318c0d92c8"), looks := false }, kinds := [], alts := [], laidByText := true, laidKinds := [.data], laidTests := true, laidLooks := .later }
def IrredDownsUptoCardSaid : Prop := Claim7.holds Tryd.pinned (.plain (OpenSpec.upto irredDownsSpec)) irredDownsUptoCard

/-- THE SECOND FORM's CARD OF 'blazonlaw15.IrredSets'. -/
def irredSetsUptoCard : Claim7 := { stood := { row := irredSetsUptoRow, standIns := [], harness := (true, "74622ce580f42d7679b3f1b99dba5767b9d65d84d5b6a6f27581c9318c0d92c8"), looks := false }, kinds := [], alts := [], laidByText := true, laidKinds := [.data], laidTests := true, laidLooks := .later }
def IrredSetsUptoCardSaid : Prop := Claim7.holds Tryd.pinned (.plain (OpenSpec.upto irredSetsSpec)) irredSetsUptoCard

/-- THE SECOND FORM's CARD OF 'blazonlaw15.IrredFar'. -/
def irredFarUptoCard : Claim7 := { stood := { row := irredFarUptoRow, standIns := [], harness := (true, "74622ce580f42d7679b3f1b99dba5767b9d65d84d5b6a6f27581c9318c0d92c8"), looks := false }, kinds := [], alts := [], laidByText := true, laidKinds := [.data], laidTests := true, laidLooks := .later }
def IrredFarUptoCardSaid : Prop := Claim7.holds Tryd.pinned (.plain (OpenSpec.upto irredFarSpec)) irredFarUptoCard

/-- THE SECOND FORM's CARD OF 'blazonlaw15.IrredWhole'. -/
def irredWholeUptoCard : Claim7 := { stood := { row := irredWholeUptoRow, standIns := [], harness := (true, "74622ce580f42d7679b3f1b99dba5767b9d65d84d5b6a6f27581c9318c0d92c8"), looks := false }, kinds := [], alts := [], laidByText := true, laidKinds := [.data], laidTests := true, laidLooks := .later }
def IrredWholeUptoCardSaid : Prop := Claim7.holds Tryd.pinned (.plain (OpenSpec.upto irredWholeSpec)) irredWholeUptoCard

/-- THE SECOND FORM's CARD OF 'blazonlaw15.IrredNil'. -/
def irredNilUptoCard : Claim7 := { stood := { row := irredNilUptoRow, standIns := [], harness := (true, "74622ce580f42d7679b3f1b99dba5767b9d65d84d5b6a6f27581c9318c0d92c8"), looks := false }, kinds := [], alts := [], laidByText := true, laidKinds := [.data], laidTests := true, laidLooks := .later }
def IrredNilUptoCardSaid : Prop := Claim7.holds Tryd.pinned (.plain (OpenSpec.upto irredNilSpec)) irredNilUptoCard
end Rows
end Go.Proofs.YtpfepkkpbampkaaDoor
