/-
  DERIVED. GIVEN WITH THE SEED: THE CARDS: each row of YtobjgebojhjhnaaDoorRows.lean that lists a variable, with what it lists TIED to the program's text (the seventh form; the later family's looks); each row that meets fmt, with fmt's text TOLD by the authors' own Lean function (tested against real Go, not proved from fmt's source: count such statements apart). THE CARD IS WHAT COUNTS. Prove the row's statement (the work); the ties are given (YtobjgebojhjhnaaDoorTie.lean); close each card by the builder's one call (the guide's Derived/Test/ToyasCard.lean, 'card_holds'). Laid BY PROGRAM, IN A SANDBOX (cutbox-door.mjs). By AI agents, Wed Nov 11 2026. No macro, syntax, notation, axiom, sorry.
-/
import Derived.Test.YtobjgebojhjhnaaDoorRows
import GoSem.ClaimSeven
namespace Go.Proofs.YtobjgebojhjhnaaDoor
namespace Rows

/-- THE TIED CARD OF 'florinlaw21.WatchProves'. -/
def watchProvesCard : Claim7 := { stood := { row := watchProvesRow, standIns := [], harness := (true, "6ad5dc80ab522d5a1a97144dd8e61211930910b7122ccf9c8c9b6743e9d4defd"), looks := false }, kinds := [], alts := [], laidByText := true, laidKinds := [.data, .data], laidTests := true, laidLooks := .later }
def WatchProvesCardSaid : Prop := Claim7.holds Tryd.pinned (.plain (OpenSpec.ofChange watchProvesSpec)) watchProvesCard

/-- THE TIED CARD OF 'florinlaw21.WatchNotes'. -/
def watchNotesCard : Claim7 := { stood := { row := watchNotesRow, standIns := [], harness := (true, "6ad5dc80ab522d5a1a97144dd8e61211930910b7122ccf9c8c9b6743e9d4defd"), looks := false }, kinds := [], alts := [], laidByText := true, laidKinds := [.data, .data], laidTests := true, laidLooks := .later }
def WatchNotesCardSaid : Prop := Claim7.holds Tryd.pinned (.plain (OpenSpec.ofChange watchNotesSpec)) watchNotesCard

/-- THE TIED CARD OF 'florinlaw21.WatchSame'. -/
def watchSameCard : Claim7 := { stood := { row := watchSameRow, standIns := [], harness := (true, "6ad5dc80ab522d5a1a97144dd8e61211930910b7122ccf9c8c9b6743e9d4defd"), looks := false }, kinds := [], alts := [], laidByText := true, laidKinds := [.data, .data], laidTests := true, laidLooks := .later }
def WatchSameCardSaid : Prop := Claim7.holds Tryd.pinned (.plain (OpenSpec.ofChange watchSameSpec)) watchSameCard

/-- THE TIED CARD OF 'florinlaw21.WatchConfirms'. -/
def watchConfirmsCard : Claim7 := { stood := { row := watchConfirmsRow, standIns := [], harness := (true, "6ad5dc80ab522d5a1a97144dd8e61211930910b7122ccf9c8c9b6743e9d4defd"), looks := false }, kinds := [], alts := [], laidByText := true, laidKinds := [.data, .data], laidTests := true, laidLooks := .later }
def WatchConfirmsCardSaid : Prop := Claim7.holds Tryd.pinned (.plain (OpenSpec.ofChange watchConfirmsSpec)) watchConfirmsCard

/-- THE TIED CARD OF 'florinlaw21.WatchAll'. -/
def watchAllCard : Claim7 := { stood := { row := watchAllRow, standIns := [], harness := (true, "6ad5dc80ab522d5a1a97144dd8e61211930910b7122ccf9c8c9b6743e9d4defd"), looks := false }, kinds := [], alts := [], laidByText := true, laidKinds := [.data, .data], laidTests := true, laidLooks := .later }
def WatchAllCardSaid : Prop := Claim7.holds Tryd.pinned (.plain (OpenSpec.ofChange watchAllSpec)) watchAllCard

/-- THE TIED CARD OF 'florinlaw21.WatchBlock'. -/
def watchBlockCard : Claim7 := { stood := { row := watchBlockRow, standIns := [], harness := (true, "6ad5dc80ab522d5a1a97144dd8e61211930910b7122ccf9c8c9b6743e9d4defd"), looks := false }, kinds := [], alts := [], laidByText := true, laidKinds := [.data, .data], laidTests := true, laidLooks := .later }
def WatchBlockCardSaid : Prop := Claim7.holds Tryd.pinned (.plain (OpenSpec.ofChange watchBlockSpec)) watchBlockCard

/-- THE SECOND FORM's CARD OF 'florinlaw21.WatchProves'. -/
def watchProvesUptoCard : Claim7 := { stood := { row := watchProvesUptoRow, standIns := [], harness := (true, "6ad5dc80ab522d5a1a97144dd8e61211930910b7122ccf9c8c9b6743e9d4defd"), looks := false }, kinds := [], alts := [], laidByText := true, laidKinds := [.data, .data], laidTests := true, laidLooks := .later }
def WatchProvesUptoCardSaid : Prop := Claim7.holds Tryd.pinned (.plain (OpenSpec.upto watchProvesSpec)) watchProvesUptoCard

/-- THE SECOND FORM's CARD OF 'florinlaw21.WatchNotes'. -/
def watchNotesUptoCard : Claim7 := { stood := { row := watchNotesUptoRow, standIns := [], harness := (true, "6ad5dc80ab522d5a1a97144dd8e61211930910b7122ccf9c8c9b6743e9d4defd"), looks := false }, kinds := [], alts := [], laidByText := true, laidKinds := [.data, .data], laidTests := true, laidLooks := .later }
def WatchNotesUptoCardSaid : Prop := Claim7.holds Tryd.pinned (.plain (OpenSpec.upto watchNotesSpec)) watchNotesUptoCard

/-- THE SECOND FORM's CARD OF 'florinlaw21.WatchSame'. -/
def watchSameUptoCard : Claim7 := { stood := { row := watchSameUptoRow, standIns := [], harness := (true, "6ad5dc80ab522d5a1a97144dd8e61211930910b7122ccf9c8c9b6743e9d4defd"), looks := false }, kinds := [], alts := [], laidByText := true, laidKinds := [.data, .data], laidTests := true, laidLooks := .later }
def WatchSameUptoCardSaid : Prop := Claim7.holds Tryd.pinned (.plain (OpenSpec.upto watchSameSpec)) watchSameUptoCard

/-- THE SECOND FORM's CARD OF 'florinlaw21.WatchConfirms'. -/
def watchConfirmsUptoCard : Claim7 := { stood := { row := watchConfirmsUptoRow, standIns := [], harness := (true, "6ad5dc80ab522d5a1a97144dd8e61211930910b7122ccf9c8c9b6743e9d4defd"), looks := false }, kinds := [], alts := [], laidByText := true, laidKinds := [.data, .data], laidTests := true, laidLooks := .later }
def WatchConfirmsUptoCardSaid : Prop := Claim7.holds Tryd.pinned (.plain (OpenSpec.upto watchConfirmsSpec)) watchConfirmsUptoCard

/-- THE SECOND FORM's CARD OF 'florinlaw21.WatchAll'. -/
def watchAllUptoCard : Claim7 := { stood := { row := watchAllUptoRow, standIns := [], harness := (true, "6ad5dc80ab522d5a1a97144dd8e61211930910b7122ccf9c8c9b6743e9d4defd"), looks := false }, kinds := [], alts := [], laidByText := true, laidKinds := [.data, .data], laidTests := true, laidLooks := .later }
def WatchAllUptoCardSaid : Prop := Claim7.holds Tryd.pinned (.plain (OpenSpec.upto watchAllSpec)) watchAllUptoCard

/-- THE SECOND FORM's CARD OF 'florinlaw21.WatchBlock'. -/
def watchBlockUptoCard : Claim7 := { stood := { row := watchBlockUptoRow, standIns := [], harness := (true, "6ad5dc80ab522d5a1a97144dd8e61211930910b7122ccf9c8c9b6743e9d4defd"), looks := false }, kinds := [], alts := [], laidByText := true, laidKinds := [.data, .data], laidTests := true, laidLooks := .later }
def WatchBlockUptoCardSaid : Prop := Claim7.holds Tryd.pinned (.plain (OpenSpec.upto watchBlockSpec)) watchBlockUptoCard
end Rows
end Go.Proofs.YtobjgebojhjhnaaDoor
