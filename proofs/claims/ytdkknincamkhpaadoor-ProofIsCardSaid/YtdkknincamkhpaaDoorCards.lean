/-
  DERIVED. GIVEN WITH THE SEED: THE CARDS: each row of YtdkknincamkhpaaDoorRows.lean that lists a variable, with what it lists TIED to the program's text (the seventh form; the later family's looks); each row that meets fmt, with fmt's text TOLD by the authors' own Lean function (tested against real Go, not proved from fmt's source: count such statements apart). THE CARD IS WHAT COUNTS. Prove the row's statement (the work); the ties are given (YtdkknincamkhpaaDoorTie.lean); close each card by the builder's one call (the guide's Derived/Test/ToyasCard.lean, 'card_holds'). Laid BY PROGRAM, IN A SANDBOX (cutbox-door.mjs). By AI agents, Wed Nov 11 2026. No macro, syntax, notation, axiom, sorry.
-/
import Derived.Test.YtdkknincamkhpaaDoorRows
import GoSem.ClaimSeven
namespace Go.Proofs.YtdkknincamkhpaaDoor
namespace Rows

/-- THE TIED CARD OF 'florinlaw12.ProofIs'. -/
def proofIsCard : Claim7 := { stood := { row := proofIsRow, standIns := [], harness := (true, "2d06bc2789ac053e74242715dd6ac4d84d772eedce838de32d5100c80ffd9e8e"), looks := false }, kinds := [], alts := [], laidByText := true, laidKinds := [.data, .data], laidTests := true, laidLooks := .later }
def ProofIsCardSaid : Prop := Claim7.holds Tryd.pinned (.plain (OpenSpec.ofChange proofIsSpec)) proofIsCard

/-- THE TIED CARD OF 'florinlaw12.ProofChecks'. -/
def proofChecksCard : Claim7 := { stood := { row := proofChecksRow, standIns := [], harness := (true, "2d06bc2789ac053e74242715dd6ac4d84d772eedce838de32d5100c80ffd9e8e"), looks := false }, kinds := [], alts := [], laidByText := true, laidKinds := [.data, .data], laidTests := true, laidLooks := .later }
def ProofChecksCardSaid : Prop := Claim7.holds Tryd.pinned (.plain (OpenSpec.ofChange proofChecksSpec)) proofChecksCard

/-- THE TIED CARD OF 'florinlaw12.ProofWitness'. -/
def proofWitnessCard : Claim7 := { stood := { row := proofWitnessRow, standIns := [], harness := (true, "2d06bc2789ac053e74242715dd6ac4d84d772eedce838de32d5100c80ffd9e8e"), looks := false }, kinds := [], alts := [], laidByText := true, laidKinds := [.data, .data], laidTests := true, laidLooks := .later }
def ProofWitnessCardSaid : Prop := Claim7.holds Tryd.pinned (.plain (OpenSpec.ofChange proofWitnessSpec)) proofWitnessCard

/-- THE TIED CARD OF 'florinlaw12.ProofClimbs'. -/
def proofClimbsCard : Claim7 := { stood := { row := proofClimbsRow, standIns := [], harness := (true, "2d06bc2789ac053e74242715dd6ac4d84d772eedce838de32d5100c80ffd9e8e"), looks := false }, kinds := [], alts := [], laidByText := true, laidKinds := [.data, .data], laidTests := true, laidLooks := .later }
def ProofClimbsCardSaid : Prop := Claim7.holds Tryd.pinned (.plain (OpenSpec.ofChange proofClimbsSpec)) proofClimbsCard

/-- THE TIED CARD OF 'florinlaw12.ProofSteps'. -/
def proofStepsCard : Claim7 := { stood := { row := proofStepsRow, standIns := [], harness := (true, "2d06bc2789ac053e74242715dd6ac4d84d772eedce838de32d5100c80ffd9e8e"), looks := false }, kinds := [], alts := [], laidByText := true, laidKinds := [.data, .data], laidTests := true, laidLooks := .later }
def ProofStepsCardSaid : Prop := Claim7.holds Tryd.pinned (.plain (OpenSpec.ofChange proofStepsSpec)) proofStepsCard

/-- THE TIED CARD OF 'florinlaw12.ProofWhole'. -/
def proofWholeCard : Claim7 := { stood := { row := proofWholeRow, standIns := [], harness := (true, "2d06bc2789ac053e74242715dd6ac4d84d772eedce838de32d5100c80ffd9e8e"), looks := false }, kinds := [], alts := [], laidByText := true, laidKinds := [.data, .data], laidTests := true, laidLooks := .later }
def ProofWholeCardSaid : Prop := Claim7.holds Tryd.pinned (.plain (OpenSpec.ofChange proofWholeSpec)) proofWholeCard

/-- THE SECOND FORM's CARD OF 'florinlaw12.ProofIs'. -/
def proofIsUptoCard : Claim7 := { stood := { row := proofIsUptoRow, standIns := [], harness := (true, "2d06bc2789ac053e74242715dd6ac4d84d772eedce838de32d5100c80ffd9e8e"), looks := false }, kinds := [], alts := [], laidByText := true, laidKinds := [.data, .data], laidTests := true, laidLooks := .later }
def ProofIsUptoCardSaid : Prop := Claim7.holds Tryd.pinned (.plain (OpenSpec.upto proofIsSpec)) proofIsUptoCard

/-- THE SECOND FORM's CARD OF 'florinlaw12.ProofChecks'. -/
def proofChecksUptoCard : Claim7 := { stood := { row := proofChecksUptoRow, standIns := [], harness := (true, "2d06bc2789ac053e74242715dd6ac4d84d772eedce838de32d5100c80ffd9e8e"), looks := false }, kinds := [], alts := [], laidByText := true, laidKinds := [.data, .data], laidTests := true, laidLooks := .later }
def ProofChecksUptoCardSaid : Prop := Claim7.holds Tryd.pinned (.plain (OpenSpec.upto proofChecksSpec)) proofChecksUptoCard

/-- THE SECOND FORM's CARD OF 'florinlaw12.ProofWitness'. -/
def proofWitnessUptoCard : Claim7 := { stood := { row := proofWitnessUptoRow, standIns := [], harness := (true, "2d06bc2789ac053e74242715dd6ac4d84d772eedce838de32d5100c80ffd9e8e"), looks := false }, kinds := [], alts := [], laidByText := true, laidKinds := [.data, .data], laidTests := true, laidLooks := .later }
def ProofWitnessUptoCardSaid : Prop := Claim7.holds Tryd.pinned (.plain (OpenSpec.upto proofWitnessSpec)) proofWitnessUptoCard

/-- THE SECOND FORM's CARD OF 'florinlaw12.ProofClimbs'. -/
def proofClimbsUptoCard : Claim7 := { stood := { row := proofClimbsUptoRow, standIns := [], harness := (true, "2d06bc2789ac053e74242715dd6ac4d84d772eedce838de32d5100c80ffd9e8e"), looks := false }, kinds := [], alts := [], laidByText := true, laidKinds := [.data, .data], laidTests := true, laidLooks := .later }
def ProofClimbsUptoCardSaid : Prop := Claim7.holds Tryd.pinned (.plain (OpenSpec.upto proofClimbsSpec)) proofClimbsUptoCard

/-- THE SECOND FORM's CARD OF 'florinlaw12.ProofSteps'. -/
def proofStepsUptoCard : Claim7 := { stood := { row := proofStepsUptoRow, standIns := [], harness := (true, "2d06bc2789ac053e74242715dd6ac4d84d772eedce838de32d5100c80ffd9e8e"), looks := false }, kinds := [], alts := [], laidByText := true, laidKinds := [.data, .data], laidTests := true, laidLooks := .later }
def ProofStepsUptoCardSaid : Prop := Claim7.holds Tryd.pinned (.plain (OpenSpec.upto proofStepsSpec)) proofStepsUptoCard

/-- THE SECOND FORM's CARD OF 'florinlaw12.ProofWhole'. -/
def proofWholeUptoCard : Claim7 := { stood := { row := proofWholeUptoRow, standIns := [], harness := (true, "2d06bc2789ac053e74242715dd6ac4d84d772eedce838de32d5100c80ffd9e8e"), looks := false }, kinds := [], alts := [], laidByText := true, laidKinds := [.data, .data], laidTests := true, laidLooks := .later }
def ProofWholeUptoCardSaid : Prop := Claim7.holds Tryd.pinned (.plain (OpenSpec.upto proofWholeSpec)) proofWholeUptoCard
end Rows
end Go.Proofs.YtdkknincamkhpaaDoor
