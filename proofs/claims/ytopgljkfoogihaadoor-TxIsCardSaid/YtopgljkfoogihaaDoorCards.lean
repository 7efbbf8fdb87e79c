/-
  DERIVED. GIVEN WITH THE SEED: THE CARDS: each row of YtopgljkfoogihaaDoorRows.lean that lists a variable, with what it lists TIED to the program's text (the seventh form; the later family's looks); each row that meets fmt, with fmt's text TOLD by the authors' own Lean function (tested against real Go, not proved from fmt's source: count such statements apart). THE CARD IS WHAT COUNTS. Prove the row's statement (the work); the ties are given (YtopgljkfoogihaaDoorTie.lean); close each card by the builder's one call (the guide's Derived/Test/ToyasCard.lean, 'card_holds'). Laid BY PROGRAM, IN A SANDBOX (cutbox-door.mjs). By AI agents, Wed Nov 11 2026. No macro, syntax, notation, axiom, sorry.
-/
import Derived.Test.YtopgljkfoogihaaDoorRows
import GoSem.ClaimSeven
namespace Go.Proofs.YtopgljkfoogihaaDoor
namespace Rows

/-- THE TIED CARD OF 'florinlaw08.TxIds'. -/
def txIdsCard : Claim7 := { stood := { row := txIdsRow, standIns := [], harness := (true, "ead17764a17725cf058782b7cdb110c54a00ecd9c13b7fe4ad6565bfc12b1a31"), looks := false }, kinds := [], alts := [], laidByText := true, laidKinds := [.data, .data], laidTests := true, laidLooks := .later }
def TxIdsCardSaid : Prop := Claim7.holds Tryd.pinned (.plain (OpenSpec.ofChange txIdsSpec)) txIdsCard

/-- THE TIED CARD OF 'florinlaw08.TxIs'. -/
def txIsCard : Claim7 := { stood := { row := txIsRow, standIns := [], harness := (true, "ead17764a17725cf058782b7cdb110c54a00ecd9c13b7fe4ad6565bfc12b1a31"), looks := false }, kinds := [], alts := [], laidByText := true, laidKinds := [.data, .data], laidTests := true, laidLooks := .later }
def TxIsCardSaid : Prop := Claim7.holds Tryd.pinned (.plain (OpenSpec.ofChange txIsSpec)) txIsCard

/-- THE SECOND FORM's CARD OF 'florinlaw08.TxIds'. -/
def txIdsUptoCard : Claim7 := { stood := { row := txIdsUptoRow, standIns := [], harness := (true, "ead17764a17725cf058782b7cdb110c54a00ecd9c13b7fe4ad6565bfc12b1a31"), looks := false }, kinds := [], alts := [], laidByText := true, laidKinds := [.data, .data], laidTests := true, laidLooks := .later }
def TxIdsUptoCardSaid : Prop := Claim7.holds Tryd.pinned (.plain (OpenSpec.upto txIdsSpec)) txIdsUptoCard

/-- THE SECOND FORM's CARD OF 'florinlaw08.TxIs'. -/
def txIsUptoCard : Claim7 := { stood := { row := txIsUptoRow, standIns := [], harness := (true, "ead17764a17725cf058782b7cdb110c54a00ecd9c13b7fe4ad6565bfc12b1a31"), looks := false }, kinds := [], alts := [], laidByText := true, laidKinds := [.data, .data], laidTests := true, laidLooks := .later }
def TxIsUptoCardSaid : Prop := Claim7.holds Tryd.pinned (.plain (OpenSpec.upto txIsSpec)) txIsUptoCard
end Rows
end Go.Proofs.YtopgljkfoogihaaDoor
