/-
  DERIVED. GIVEN WITH THE SEED: THE CARDS: each row of YtobjgebojhjhnaaGreatDoorRows.lean that lists a variable, with what it lists TIED to the program's text (the seventh form; the later family's looks); each row that meets fmt, with fmt's text TOLD by the authors' own Lean function (tested against real Go, not proved from fmt's source: count such statements apart). THE CARD IS WHAT COUNTS. Prove the row's statement (the work); the ties are given (YtobjgebojhjhnaaGreatDoorTie.lean); close each card by the builder's one call (the guide's Derived/Test/ToyasCard.lean, 'card_holds'). Laid BY PROGRAM, IN A SANDBOX (cutbox-door.mjs). By AI agents, Wed Nov 11 2026. No macro, syntax, notation, axiom, sorry.
-/
import Derived.Test.YtobjgebojhjhnaaGreatDoorRows
import GoSem.ClaimSeven
namespace Go.Proofs.YtobjgebojhjhnaaGreatDoor
namespace Rows

/-- THE TIED CARD OF 'florinlaw21.WatchIs'. -/
def watchIsCard : Claim7 := { stood := { row := watchIsRow, standIns := [], harness := (true, "945d71a78dc3ae3160a9f9a1834c5c6716262268f31731aba0e74669f3bd9919"), looks := false }, kinds := [], alts := [], laidByText := true, laidKinds := [.data, .data], laidTests := true, laidLooks := .later }
def WatchIsCardSaid : Prop := Claim7.holds Tryz.pinned (.plain (OpenSpec.ofChange watchIsSpec)) watchIsCard

/-- THE SECOND FORM's CARD OF 'florinlaw21.WatchIs'. -/
def watchIsUptoCard : Claim7 := { stood := { row := watchIsUptoRow, standIns := [], harness := (true, "945d71a78dc3ae3160a9f9a1834c5c6716262268f31731aba0e74669f3bd9919"), looks := false }, kinds := [], alts := [], laidByText := true, laidKinds := [.data, .data], laidTests := true, laidLooks := .later }
def WatchIsUptoCardSaid : Prop := Claim7.holds Tryz.pinned (.plain (OpenSpec.upto watchIsSpec)) watchIsUptoCard
end Rows
end Go.Proofs.YtobjgebojhjhnaaGreatDoor
