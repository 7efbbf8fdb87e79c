/-
  DERIVED. GIVEN WITH THE SEED: THE CARDS: each row of YtjgdmpbaikhflaaDoorRows.lean that lists a variable, with what it lists TIED to the program's text (the seventh form; the later family's looks); each row that meets fmt, with fmt's text TOLD by the authors' own Lean function (tested against real Go, not proved from fmt's source: count such statements apart). THE CARD IS WHAT COUNTS. Prove the row's statement (the work); the ties are given (YtjgdmpbaikhflaaDoorTie.lean); close each card by the builder's one call (the guide's Derived/Test/ToyasCard.lean, 'card_holds'). Laid BY PROGRAM, IN A SANDBOX (cutbox-door.mjs). By AI agents, Wed Nov 11 2026. No macro, syntax, notation, axiom, sorry.
-/
import Derived.Test.YtjgdmpbaikhflaaDoorRows
import GoSem.ClaimSeven
namespace Go.Proofs.YtjgdmpbaikhflaaDoor
namespace Rows

/-- THE TIED CARD OF 'florinlaw07.HeaderMines'. -/
def headerMinesCard : Claim7 := { stood := { row := headerMinesRow, standIns := [], harness := (true, "12bcc310c75f1e6391f5b478ede55799ce70c6de214d9aeecb049bccc75460a4"), looks := false }, kinds := [], alts := [], laidByText := true, laidKinds := [.data, .data], laidTests := true, laidLooks := .later }
def HeaderMinesCardSaid : Prop := Claim7.holds Tryd.pinned (.plain (OpenSpec.ofChange headerMinesSpec)) headerMinesCard

/-- THE TIED CARD OF 'florinlaw07.HeaderChain'. -/
def headerChainCard : Claim7 := { stood := { row := headerChainRow, standIns := [], harness := (true, "12bcc310c75f1e6391f5b478ede55799ce70c6de214d9aeecb049bccc75460a4"), looks := false }, kinds := [], alts := [], laidByText := true, laidKinds := [.data, .data], laidTests := true, laidLooks := .later }
def HeaderChainCardSaid : Prop := Claim7.holds Tryd.pinned (.plain (OpenSpec.ofChange headerChainSpec)) headerChainCard

/-- THE TIED CARD OF 'florinlaw07.HeaderBytes'. -/
def headerBytesCard : Claim7 := { stood := { row := headerBytesRow, standIns := [], harness := (true, "12bcc310c75f1e6391f5b478ede55799ce70c6de214d9aeecb049bccc75460a4"), looks := false }, kinds := [], alts := [], laidByText := true, laidKinds := [.data, .data], laidTests := true, laidLooks := .later }
def HeaderBytesCardSaid : Prop := Claim7.holds Tryd.pinned (.plain (OpenSpec.ofChange headerBytesSpec)) headerBytesCard

/-- THE TIED CARD OF 'florinlaw07.HeaderBack'. -/
def headerBackCard : Claim7 := { stood := { row := headerBackRow, standIns := [], harness := (true, "12bcc310c75f1e6391f5b478ede55799ce70c6de214d9aeecb049bccc75460a4"), looks := false }, kinds := [], alts := [], laidByText := true, laidKinds := [.data, .data], laidTests := true, laidLooks := .later }
def HeaderBackCardSaid : Prop := Claim7.holds Tryd.pinned (.plain (OpenSpec.ofChange headerBackSpec)) headerBackCard

/-- THE TIED CARD OF 'florinlaw07.HeaderOnce'. -/
def headerOnceCard : Claim7 := { stood := { row := headerOnceRow, standIns := [], harness := (true, "12bcc310c75f1e6391f5b478ede55799ce70c6de214d9aeecb049bccc75460a4"), looks := false }, kinds := [], alts := [], laidByText := true, laidKinds := [.data, .data], laidTests := true, laidLooks := .later }
def HeaderOnceCardSaid : Prop := Claim7.holds Tryd.pinned (.plain (OpenSpec.ofChange headerOnceSpec)) headerOnceCard

/-- THE TIED CARD OF 'florinlaw07.HeaderIs'. -/
def headerIsCard : Claim7 := { stood := { row := headerIsRow, standIns := [], harness := (true, "12bcc310c75f1e6391f5b478ede55799ce70c6de214d9aeecb049bccc75460a4"), looks := false }, kinds := [], alts := [], laidByText := true, laidKinds := [.data, .data], laidTests := true, laidLooks := .later }
def HeaderIsCardSaid : Prop := Claim7.holds Tryd.pinned (.plain (OpenSpec.ofChange headerIsSpec)) headerIsCard

/-- THE SECOND FORM's CARD OF 'florinlaw07.HeaderMines'. -/
def headerMinesUptoCard : Claim7 := { stood := { row := headerMinesUptoRow, standIns := [], harness := (true, "12bcc310c75f1e6391f5b478ede55799ce70c6de214d9aeecb049bccc75460a4"), looks := false }, kinds := [], alts := [], laidByText := true, laidKinds := [.data, .data], laidTests := true, laidLooks := .later }
def HeaderMinesUptoCardSaid : Prop := Claim7.holds Tryd.pinned (.plain (OpenSpec.upto headerMinesSpec)) headerMinesUptoCard

/-- THE SECOND FORM's CARD OF 'florinlaw07.HeaderChain'. -/
def headerChainUptoCard : Claim7 := { stood := { row := headerChainUptoRow, standIns := [], harness := (true, "12bcc310c75f1e6391f5b478ede55799ce70c6de214d9aeecb049bccc75460a4"), looks := false }, kinds := [], alts := [], laidByText := true, laidKinds := [.data, .data], laidTests := true, laidLooks := .later }
def HeaderChainUptoCardSaid : Prop := Claim7.holds Tryd.pinned (.plain (OpenSpec.upto headerChainSpec)) headerChainUptoCard

/-- THE SECOND FORM's CARD OF 'florinlaw07.HeaderBytes'. -/
def headerBytesUptoCard : Claim7 := { stood := { row := headerBytesUptoRow, standIns := [], harness := (true, "12bcc310c75f1e6391f5b478ede55799ce70c6de214d9aeecb049bccc75460a4"), looks := false }, kinds := [], alts := [], laidByText := true, laidKinds := [.data, .data], laidTests := true, laidLooks := .later }
def HeaderBytesUptoCardSaid : Prop := Claim7.holds Tryd.pinned (.plain (OpenSpec.upto headerBytesSpec)) headerBytesUptoCard

/-- THE SECOND FORM's CARD OF 'florinlaw07.HeaderBack'. -/
def headerBackUptoCard : Claim7 := { stood := { row := headerBackUptoRow, standIns := [], harness := (true, "12bcc310c75f1e6391f5b478ede55799ce70c6de214d9aeecb049bccc75460a4"), looks := false }, kinds := [], alts := [], laidByText := true, laidKinds := [.data, .data], laidTests := true, laidLooks := .later }
def HeaderBackUptoCardSaid : Prop := Claim7.holds Tryd.pinned (.plain (OpenSpec.upto headerBackSpec)) headerBackUptoCard

/-- THE SECOND FORM's CARD OF 'florinlaw07.HeaderOnce'. -/
def headerOnceUptoCard : Claim7 := { stood := { row := headerOnceUptoRow, standIns := [], harness := (true, "12bcc310c75f1e6391f5b478ede55799ce70c6de214d9aeecb049bccc75460a4"), looks := false }, kinds := [], alts := [], laidByText := true, laidKinds := [.data, .data], laidTests := true, laidLooks := .later }
def HeaderOnceUptoCardSaid : Prop := Claim7.holds Tryd.pinned (.plain (OpenSpec.upto headerOnceSpec)) headerOnceUptoCard

/-- THE SECOND FORM's CARD OF 'florinlaw07.HeaderIs'. -/
def headerIsUptoCard : Claim7 := { stood := { row := headerIsUptoRow, standIns := [], harness := (true, "12bcc310c75f1e6391f5b478ede55799ce70c6de214d9aeecb049bccc75460a4"), looks := false }, kinds := [], alts := [], laidByText := true, laidKinds := [.data, .data], laidTests := true, laidLooks := .later }
def HeaderIsUptoCardSaid : Prop := Claim7.holds Tryd.pinned (.plain (OpenSpec.upto headerIsSpec)) headerIsUptoCard
end Rows
end Go.Proofs.YtjgdmpbaikhflaaDoor
