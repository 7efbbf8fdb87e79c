/-
  DERIVED. GIVEN WITH THE SEED: THE CARDS: each row of YtngindljhlbglaaDoorRows.lean that lists a variable, with what it lists TIED to the program's text (the seventh form; the later family's looks); each row that meets fmt, with fmt's text TOLD by the authors' own Lean function (tested against real Go, not proved from fmt's source: count such statements apart). THE CARD IS WHAT COUNTS. Prove the row's statement (the work); the ties are given (YtngindljhlbglaaDoorTie.lean); close each card by the builder's one call (the guide's Derived/Test/ToyasCard.lean, 'card_holds'). Laid BY PROGRAM, IN A SANDBOX (cutbox-door.mjs). By AI agents, Wed Nov 11 2026. No macro, syntax, notation, axiom, sorry.
-/
import Derived.Test.YtngindljhlbglaaDoorRows
import GoSem.ClaimSeven
namespace Go.Proofs.YtngindljhlbglaaDoor
namespace Rows

/-- THE TIED CARD OF 'florinlaw10.MerkleDoubled'. -/
def merkleDoubledCard : Claim7 := { stood := { row := merkleDoubledRow, standIns := [], harness := (true, "e76568e55e937140aad2a23699cffab83f403beb86001eed730fb7c1ee809c19"), looks := false }, kinds := [], alts := [], laidByText := true, laidKinds := [.data, .data], laidTests := true, laidLooks := .later }
def MerkleDoubledCardSaid : Prop := Claim7.holds Tryd.pinned (.plain (OpenSpec.ofChange merkleDoubledSpec)) merkleDoubledCard

/-- THE TIED CARD OF 'florinlaw10.MerkleHalves'. -/
def merkleHalvesCard : Claim7 := { stood := { row := merkleHalvesRow, standIns := [], harness := (true, "e76568e55e937140aad2a23699cffab83f403beb86001eed730fb7c1ee809c19"), looks := false }, kinds := [], alts := [], laidByText := true, laidKinds := [.data, .data], laidTests := true, laidLooks := .later }
def MerkleHalvesCardSaid : Prop := Claim7.holds Tryd.pinned (.plain (OpenSpec.ofChange merkleHalvesSpec)) merkleHalvesCard

/-- THE TIED CARD OF 'florinlaw10.MerkleAlike'. -/
def merkleAlikeCard : Claim7 := { stood := { row := merkleAlikeRow, standIns := [], harness := (true, "e76568e55e937140aad2a23699cffab83f403beb86001eed730fb7c1ee809c19"), looks := false }, kinds := [], alts := [], laidByText := true, laidKinds := [.data, .data], laidTests := true, laidLooks := .later }
def MerkleAlikeCardSaid : Prop := Claim7.holds Tryd.pinned (.plain (OpenSpec.ofChange merkleAlikeSpec)) merkleAlikeCard

/-- THE TIED CARD OF 'florinlaw10.MerkleLevels'. -/
def merkleLevelsCard : Claim7 := { stood := { row := merkleLevelsRow, standIns := [], harness := (true, "e76568e55e937140aad2a23699cffab83f403beb86001eed730fb7c1ee809c19"), looks := false }, kinds := [], alts := [], laidByText := true, laidKinds := [.data, .data], laidTests := true, laidLooks := .later }
def MerkleLevelsCardSaid : Prop := Claim7.holds Tryd.pinned (.plain (OpenSpec.ofChange merkleLevelsSpec)) merkleLevelsCard

/-- THE TIED CARD OF 'florinlaw10.MerkleClimbs'. -/
def merkleClimbsCard : Claim7 := { stood := { row := merkleClimbsRow, standIns := [], harness := (true, "e76568e55e937140aad2a23699cffab83f403beb86001eed730fb7c1ee809c19"), looks := false }, kinds := [], alts := [], laidByText := true, laidKinds := [.data, .data], laidTests := true, laidLooks := .later }
def MerkleClimbsCardSaid : Prop := Claim7.holds Tryd.pinned (.plain (OpenSpec.ofChange merkleClimbsSpec)) merkleClimbsCard

/-- THE TIED CARD OF 'florinlaw10.MerkleIs'. -/
def merkleIsCard : Claim7 := { stood := { row := merkleIsRow, standIns := [], harness := (true, "e76568e55e937140aad2a23699cffab83f403beb86001eed730fb7c1ee809c19"), looks := false }, kinds := [], alts := [], laidByText := true, laidKinds := [.data, .data], laidTests := true, laidLooks := .later }
def MerkleIsCardSaid : Prop := Claim7.holds Tryd.pinned (.plain (OpenSpec.ofChange merkleIsSpec)) merkleIsCard

/-- THE SECOND FORM's CARD OF 'florinlaw10.MerkleDoubled'. -/
def merkleDoubledUptoCard : Claim7 := { stood := { row := merkleDoubledUptoRow, standIns := [], harness := (true, "e76568e55e937140aad2a23699cffab83f403beb86001eed730fb7c1ee809c19"), looks := false }, kinds := [], alts := [], laidByText := true, laidKinds := [.data, .data], laidTests := true, laidLooks := .later }
def MerkleDoubledUptoCardSaid : Prop := Claim7.holds Tryd.pinned (.plain (OpenSpec.upto merkleDoubledSpec)) merkleDoubledUptoCard

/-- THE SECOND FORM's CARD OF 'florinlaw10.MerkleHalves'. -/
def merkleHalvesUptoCard : Claim7 := { stood := { row := merkleHalvesUptoRow, standIns := [], harness := (true, "e76568e55e937140aad2a23699cffab83f403beb86001eed730fb7c1ee809c19"), looks := false }, kinds := [], alts := [], laidByText := true, laidKinds := [.data, .data], laidTests := true, laidLooks := .later }
def MerkleHalvesUptoCardSaid : Prop := Claim7.holds Tryd.pinned (.plain (OpenSpec.upto merkleHalvesSpec)) merkleHalvesUptoCard

/-- THE SECOND FORM's CARD OF 'florinlaw10.MerkleAlike'. -/
def merkleAlikeUptoCard : Claim7 := { stood := { row := merkleAlikeUptoRow, standIns := [], harness := (true, "e76568e55e937140aad2a23699cffab83f403beb86001eed730fb7c1ee809c19"), looks := false }, kinds := [], alts := [], laidByText := true, laidKinds := [.data, .data], laidTests := true, laidLooks := .later }
def MerkleAlikeUptoCardSaid : Prop := Claim7.holds Tryd.pinned (.plain (OpenSpec.upto merkleAlikeSpec)) merkleAlikeUptoCard

/-- THE SECOND FORM's CARD OF 'florinlaw10.MerkleLevels'. -/
def merkleLevelsUptoCard : Claim7 := { stood := { row := merkleLevelsUptoRow, standIns := [], harness := (true, "e76568e55e937140aad2a23699cffab83f403beb86001eed730fb7c1ee809c19"), looks := false }, kinds := [], alts := [], laidByText := true, laidKinds := [.data, .data], laidTests := true, laidLooks := .later }
def MerkleLevelsUptoCardSaid : Prop := Claim7.holds Tryd.pinned (.plain (OpenSpec.upto merkleLevelsSpec)) merkleLevelsUptoCard

/-- THE SECOND FORM's CARD OF 'florinlaw10.MerkleClimbs'. -/
def merkleClimbsUptoCard : Claim7 := { stood := { row := merkleClimbsUptoRow, standIns := [], harness := (true, "e76568e55e937140aad2a23699cffab83f403beb86001eed730fb7c1ee809c19"), looks := false }, kinds := [], alts := [], laidByText := true, laidKinds := [.data, .data], laidTests := true, laidLooks := .later }
def MerkleClimbsUptoCardSaid : Prop := Claim7.holds Tryd.pinned (.plain (OpenSpec.upto merkleClimbsSpec)) merkleClimbsUptoCard

/-- THE SECOND FORM's CARD OF 'florinlaw10.MerkleIs'. -/
def merkleIsUptoCard : Claim7 := { stood := { row := merkleIsUptoRow, standIns := [], harness := (true, "e76568e55e937140aad2a23699cffab83f403beb86001eed730fb7c1ee809c19"), looks := false }, kinds := [], alts := [], laidByText := true, laidKinds := [.data, .data], laidTests := true, laidLooks := .later }
def MerkleIsUptoCardSaid : Prop := Claim7.holds Tryd.pinned (.plain (OpenSpec.upto merkleIsSpec)) merkleIsUptoCard
end Rows
end Go.Proofs.YtngindljhlbglaaDoor
