/-
  DERIVED. GIVEN WITH THE SEED: THE CARDS: each row of YtijnkieakenipaaDoorRows.lean that lists a variable, with what it lists TIED to the program's text (the seventh form; the later family's looks); each row that meets fmt, with fmt's text TOLD by the authors' own Lean function (tested against real Go, not proved from fmt's source: count such statements apart). THE CARD IS WHAT COUNTS. Prove the row's statement (the work); the ties are given (YtijnkieakenipaaDoorTie.lean); close each card by the builder's one call (the guide's Derived/Test/ToyasCard.lean, 'card_holds'). Laid BY PROGRAM, IN A SANDBOX (cutbox-door.mjs). By AI agents, Wed Nov 11 2026. No macro, syntax, notation, axiom, sorry.
-/
import Derived.Test.YtijnkieakenipaaDoorRows
import GoSem.ClaimSeven
namespace Go.Proofs.YtijnkieakenipaaDoor
namespace Rows

/-- THE TIED CARD OF 'florinlaw15.TreeOrder'. -/
def treeOrderCard : Claim7 := { stood := { row := treeOrderRow, standIns := [], harness := (true, "8107d7619b14874b186f534bd2ce2f867296ef7753bef971d5bdc054c798cb8a"), looks := false }, kinds := [], alts := [], laidByText := true, laidKinds := [.data, .data], laidTests := true, laidLooks := .later }
def TreeOrderCardSaid : Prop := Claim7.holds Tryd.pinned (.plain (OpenSpec.ofChange treeOrderSpec)) treeOrderCard

/-- THE TIED CARD OF 'florinlaw15.TreeLines'. -/
def treeLinesCard : Claim7 := { stood := { row := treeLinesRow, standIns := [], harness := (true, "8107d7619b14874b186f534bd2ce2f867296ef7753bef971d5bdc054c798cb8a"), looks := false }, kinds := [], alts := [], laidByText := true, laidKinds := [.data, .data], laidTests := true, laidLooks := .later }
def TreeLinesCardSaid : Prop := Claim7.holds Tryd.pinned (.plain (OpenSpec.ofChange treeLinesSpec)) treeLinesCard

/-- THE TIED CARD OF 'florinlaw15.TreeBest'. -/
def treeBestCard : Claim7 := { stood := { row := treeBestRow, standIns := [], harness := (true, "8107d7619b14874b186f534bd2ce2f867296ef7753bef971d5bdc054c798cb8a"), looks := false }, kinds := [], alts := [], laidByText := true, laidKinds := [.data, .data], laidTests := true, laidLooks := .later }
def TreeBestCardSaid : Prop := Claim7.holds Tryd.pinned (.plain (OpenSpec.ofChange treeBestSpec)) treeBestCard

/-- THE TIED CARD OF 'florinlaw15.TreeCommon'. -/
def treeCommonCard : Claim7 := { stood := { row := treeCommonRow, standIns := [], harness := (true, "8107d7619b14874b186f534bd2ce2f867296ef7753bef971d5bdc054c798cb8a"), looks := false }, kinds := [], alts := [], laidByText := true, laidKinds := [.data, .data], laidTests := true, laidLooks := .later }
def TreeCommonCardSaid : Prop := Claim7.holds Tryd.pinned (.plain (OpenSpec.ofChange treeCommonSpec)) treeCommonCard

/-- THE TIED CARD OF 'florinlaw15.TreeTips'. -/
def treeTipsCard : Claim7 := { stood := { row := treeTipsRow, standIns := [], harness := (true, "8107d7619b14874b186f534bd2ce2f867296ef7753bef971d5bdc054c798cb8a"), looks := false }, kinds := [], alts := [], laidByText := true, laidKinds := [.data, .data], laidTests := true, laidLooks := .later }
def TreeTipsCardSaid : Prop := Claim7.holds Tryd.pinned (.plain (OpenSpec.ofChange treeTipsSpec)) treeTipsCard

/-- THE TIED CARD OF 'florinlaw15.TreeNone'. -/
def treeNoneCard : Claim7 := { stood := { row := treeNoneRow, standIns := [], harness := (true, "8107d7619b14874b186f534bd2ce2f867296ef7753bef971d5bdc054c798cb8a"), looks := false }, kinds := [], alts := [], laidByText := true, laidKinds := [.data, .data], laidTests := true, laidLooks := .later }
def TreeNoneCardSaid : Prop := Claim7.holds Tryd.pinned (.plain (OpenSpec.ofChange treeNoneSpec)) treeNoneCard

/-- THE SECOND FORM's CARD OF 'florinlaw15.TreeOrder'. -/
def treeOrderUptoCard : Claim7 := { stood := { row := treeOrderUptoRow, standIns := [], harness := (true, "8107d7619b14874b186f534bd2ce2f867296ef7753bef971d5bdc054c798cb8a"), looks := false }, kinds := [], alts := [], laidByText := true, laidKinds := [.data, .data], laidTests := true, laidLooks := .later }
def TreeOrderUptoCardSaid : Prop := Claim7.holds Tryd.pinned (.plain (OpenSpec.upto treeOrderSpec)) treeOrderUptoCard

/-- THE SECOND FORM's CARD OF 'florinlaw15.TreeLines'. -/
def treeLinesUptoCard : Claim7 := { stood := { row := treeLinesUptoRow, standIns := [], harness := (true, "8107d7619b14874b186f534bd2ce2f867296ef7753bef971d5bdc054c798cb8a"), looks := false }, kinds := [], alts := [], laidByText := true, laidKinds := [.data, .data], laidTests := true, laidLooks := .later }
def TreeLinesUptoCardSaid : Prop := Claim7.holds Tryd.pinned (.plain (OpenSpec.upto treeLinesSpec)) treeLinesUptoCard

/-- THE SECOND FORM's CARD OF 'florinlaw15.TreeBest'. -/
def treeBestUptoCard : Claim7 := { stood := { row := treeBestUptoRow, standIns := [], harness := (true, "8107d7619b14874b186f534bd2ce2f867296ef7753bef971d5bdc054c798cb8a"), looks := false }, kinds := [], alts := [], laidByText := true, laidKinds := [.data, .data], laidTests := true, laidLooks := .later }
def TreeBestUptoCardSaid : Prop := Claim7.holds Tryd.pinned (.plain (OpenSpec.upto treeBestSpec)) treeBestUptoCard

/-- THE SECOND FORM's CARD OF 'florinlaw15.TreeCommon'. -/
def treeCommonUptoCard : Claim7 := { stood := { row := treeCommonUptoRow, standIns := [], harness := (true, "8107d7619b14874b186f534bd2ce2f867296ef7753bef971d5bdc054c798cb8a"), looks := false }, kinds := [], alts := [], laidByText := true, laidKinds := [.data, .data], laidTests := true, laidLooks := .later }
def TreeCommonUptoCardSaid : Prop := Claim7.holds Tryd.pinned (.plain (OpenSpec.upto treeCommonSpec)) treeCommonUptoCard

/-- THE SECOND FORM's CARD OF 'florinlaw15.TreeTips'. -/
def treeTipsUptoCard : Claim7 := { stood := { row := treeTipsUptoRow, standIns := [], harness := (true, "8107d7619b14874b186f534bd2ce2f867296ef7753bef971d5bdc054c798cb8a"), looks := false }, kinds := [], alts := [], laidByText := true, laidKinds := [.data, .data], laidTests := true, laidLooks := .later }
def TreeTipsUptoCardSaid : Prop := Claim7.holds Tryd.pinned (.plain (OpenSpec.upto treeTipsSpec)) treeTipsUptoCard

/-- THE SECOND FORM's CARD OF 'florinlaw15.TreeNone'. -/
def treeNoneUptoCard : Claim7 := { stood := { row := treeNoneUptoRow, standIns := [], harness := (true, "8107d7619b14874b186f534bd2ce2f867296ef7753bef971d5bdc054c798cb8a"), looks := false }, kinds := [], alts := [], laidByText := true, laidKinds := [.data, .data], laidTests := true, laidLooks := .later }
def TreeNoneUptoCardSaid : Prop := Claim7.holds Tryd.pinned (.plain (OpenSpec.upto treeNoneSpec)) treeNoneUptoCard
end Rows
end Go.Proofs.YtijnkieakenipaaDoor
