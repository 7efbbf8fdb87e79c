/-
  DERIVED. GIVEN WITH THE SEED: THE CARDS: each row of YtmdllemgjhkphaaDoorRows.lean that lists a variable, with what it lists TIED to the program's text (the seventh form; the later family's looks); each row that meets fmt, with fmt's text TOLD by the authors' own Lean function (tested against real Go, not proved from fmt's source: count such statements apart). THE CARD IS WHAT COUNTS. Prove the row's statement (the work); the ties are given (YtmdllemgjhkphaaDoorTie.lean); close each card by the builder's one call (the guide's Derived/Test/ToyasCard.lean, 'card_holds'). Laid BY PROGRAM, IN A SANDBOX (cutbox-door.mjs). By AI agents, Wed Nov 11 2026. No macro, syntax, notation, axiom, sorry.
-/
import Derived.Test.YtmdllemgjhkphaaDoorRows
import GoSem.ClaimSeven
namespace Go.Proofs.YtmdllemgjhkphaaDoor
namespace Rows

/-- THE TIED CARD OF 'florinlaw11.PartialFinds'. -/
def partialFindsCard : Claim7 := { stood := { row := partialFindsRow, standIns := [], harness := (true, "7f792148ee41dc8545a3086322996de4848de29ed99299eba9cf5148a560782c"), looks := false }, kinds := [], alts := [], laidByText := true, laidKinds := [.data, .data], laidTests := true, laidLooks := .later }
def PartialFindsCardSaid : Prop := Claim7.holds Tryd.pinned (.plain (OpenSpec.ofChange partialFindsSpec)) partialFindsCard

/-- THE TIED CARD OF 'florinlaw11.PartialProves'. -/
def partialProvesCard : Claim7 := { stood := { row := partialProvesRow, standIns := [], harness := (true, "7f792148ee41dc8545a3086322996de4848de29ed99299eba9cf5148a560782c"), looks := false }, kinds := [], alts := [], laidByText := true, laidKinds := [.data, .data], laidTests := true, laidLooks := .later }
def PartialProvesCardSaid : Prop := Claim7.holds Tryd.pinned (.plain (OpenSpec.ofChange partialProvesSpec)) partialProvesCard

/-- THE TIED CARD OF 'florinlaw11.PartialAll'. -/
def partialAllCard : Claim7 := { stood := { row := partialAllRow, standIns := [], harness := (true, "7f792148ee41dc8545a3086322996de4848de29ed99299eba9cf5148a560782c"), looks := false }, kinds := [], alts := [], laidByText := true, laidKinds := [.data, .data], laidTests := true, laidLooks := .later }
def PartialAllCardSaid : Prop := Claim7.holds Tryd.pinned (.plain (OpenSpec.ofChange partialAllSpec)) partialAllCard

/-- THE TIED CARD OF 'florinlaw11.PartialAgain'. -/
def partialAgainCard : Claim7 := { stood := { row := partialAgainRow, standIns := [], harness := (true, "7f792148ee41dc8545a3086322996de4848de29ed99299eba9cf5148a560782c"), looks := false }, kinds := [], alts := [], laidByText := true, laidKinds := [.data, .data], laidTests := true, laidLooks := .later }
def PartialAgainCardSaid : Prop := Claim7.holds Tryd.pinned (.plain (OpenSpec.ofChange partialAgainSpec)) partialAgainCard

/-- THE TIED CARD OF 'florinlaw11.PartialIs'. -/
def partialIsCard : Claim7 := { stood := { row := partialIsRow, standIns := [], harness := (true, "7f792148ee41dc8545a3086322996de4848de29ed99299eba9cf5148a560782c"), looks := false }, kinds := [], alts := [], laidByText := true, laidKinds := [.data, .data], laidTests := true, laidLooks := .later }
def PartialIsCardSaid : Prop := Claim7.holds Tryd.pinned (.plain (OpenSpec.ofChange partialIsSpec)) partialIsCard

/-- THE TIED CARD OF 'florinlaw11.PartialSize'. -/
def partialSizeCard : Claim7 := { stood := { row := partialSizeRow, standIns := [], harness := (true, "7f792148ee41dc8545a3086322996de4848de29ed99299eba9cf5148a560782c"), looks := false }, kinds := [], alts := [], laidByText := true, laidKinds := [.data, .data], laidTests := true, laidLooks := .later }
def PartialSizeCardSaid : Prop := Claim7.holds Tryd.pinned (.plain (OpenSpec.ofChange partialSizeSpec)) partialSizeCard

/-- THE SECOND FORM's CARD OF 'florinlaw11.PartialFinds'. -/
def partialFindsUptoCard : Claim7 := { stood := { row := partialFindsUptoRow, standIns := [], harness := (true, "7f792148ee41dc8545a3086322996de4848de29ed99299eba9cf5148a560782c"), looks := false }, kinds := [], alts := [], laidByText := true, laidKinds := [.data, .data], laidTests := true, laidLooks := .later }
def PartialFindsUptoCardSaid : Prop := Claim7.holds Tryd.pinned (.plain (OpenSpec.upto partialFindsSpec)) partialFindsUptoCard

/-- THE SECOND FORM's CARD OF 'florinlaw11.PartialProves'. -/
def partialProvesUptoCard : Claim7 := { stood := { row := partialProvesUptoRow, standIns := [], harness := (true, "7f792148ee41dc8545a3086322996de4848de29ed99299eba9cf5148a560782c"), looks := false }, kinds := [], alts := [], laidByText := true, laidKinds := [.data, .data], laidTests := true, laidLooks := .later }
def PartialProvesUptoCardSaid : Prop := Claim7.holds Tryd.pinned (.plain (OpenSpec.upto partialProvesSpec)) partialProvesUptoCard

/-- THE SECOND FORM's CARD OF 'florinlaw11.PartialAll'. -/
def partialAllUptoCard : Claim7 := { stood := { row := partialAllUptoRow, standIns := [], harness := (true, "7f792148ee41dc8545a3086322996de4848de29ed99299eba9cf5148a560782c"), looks := false }, kinds := [], alts := [], laidByText := true, laidKinds := [.data, .data], laidTests := true, laidLooks := .later }
def PartialAllUptoCardSaid : Prop := Claim7.holds Tryd.pinned (.plain (OpenSpec.upto partialAllSpec)) partialAllUptoCard

/-- THE SECOND FORM's CARD OF 'florinlaw11.PartialAgain'. -/
def partialAgainUptoCard : Claim7 := { stood := { row := partialAgainUptoRow, standIns := [], harness := (true, "7f792148ee41dc8545a3086322996de4848de29ed99299eba9cf5148a560782c"), looks := false }, kinds := [], alts := [], laidByText := true, laidKinds := [.data, .data], laidTests := true, laidLooks := .later }
def PartialAgainUptoCardSaid : Prop := Claim7.holds Tryd.pinned (.plain (OpenSpec.upto partialAgainSpec)) partialAgainUptoCard

/-- THE SECOND FORM's CARD OF 'florinlaw11.PartialIs'. -/
def partialIsUptoCard : Claim7 := { stood := { row := partialIsUptoRow, standIns := [], harness := (true, "7f792148ee41dc8545a3086322996de4848de29ed99299eba9cf5148a560782c"), looks := false }, kinds := [], alts := [], laidByText := true, laidKinds := [.data, .data], laidTests := true, laidLooks := .later }
def PartialIsUptoCardSaid : Prop := Claim7.holds Tryd.pinned (.plain (OpenSpec.upto partialIsSpec)) partialIsUptoCard

/-- THE SECOND FORM's CARD OF 'florinlaw11.PartialSize'. -/
def partialSizeUptoCard : Claim7 := { stood := { row := partialSizeUptoRow, standIns := [], harness := (true, "7f792148ee41dc8545a3086322996de4848de29ed99299eba9cf5148a560782c"), looks := false }, kinds := [], alts := [], laidByText := true, laidKinds := [.data, .data], laidTests := true, laidLooks := .later }
def PartialSizeUptoCardSaid : Prop := Claim7.holds Tryd.pinned (.plain (OpenSpec.upto partialSizeSpec)) partialSizeUptoCard
end Rows
end Go.Proofs.YtmdllemgjhkphaaDoor
