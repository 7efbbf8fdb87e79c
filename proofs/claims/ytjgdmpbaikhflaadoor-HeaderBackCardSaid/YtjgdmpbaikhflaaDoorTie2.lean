/- The tables of SHA-256 out of what a row lists; a world for the witness. -/
import Derived.Test.YtjgdmpbaikhflaaDoorCards
import Derived.Test.YtjgdmpbaikhflaaDoorTie
import Derived.Test.YtjgdmpbaikhflaaDoorShTab
import Derived.WalkKit
import Derived.ProofKit
import Derived.OpenShut
import Derived.ChangeOld
import Derived.Deep.DeepHandedRow
import Derived.Lib.LaidTab
import Derived.Stop.LaidErr
namespace Go.Proofs.YtjgdmpbaikhflaaDoor
open Go.ChangeShapes Go.WideShapes Go.ChangeAt Go.RowKit

theorem gC : Tryd.prog.globalNamed "florin/sha2.constants" = some 1 := by kernel_rfl
theorem gI : Tryd.prog.globalNamed "florin/sha2.initials" = some 0 := by kernel_rfl
theorem gCt : (Tryd.prog.globals[1]?).map (·.type) = some 104 := by kernel_rfl
theorem gIt : (Tryd.prog.globals[0]?).map (·.type) = some 73 := by kernel_rfl
theorem cells64 : Tryd.prog.cellsOf 104 = 64 := by kernel_rfl
theorem cells8 : Tryd.prog.cellsOf 73 = 8 := by kernel_rfl
theorem cells32 : Tryd.prog.cellsOf 22 = 1 := by kernel_rfl
/-- what the rows list -/
def laidTabs : List (String × DataW Unit) := [("florin/sha2.constants", Rows.laid_florin_sha2_constants), ("florin/sha2.initials", Rows.laid_florin_sha2_initials)]
theorem tabs_of_laid {W : World} (h : laidMet Tryd.prog laidTabs W) : Tabs W := by
  have h1 : Lib.TabIs Tryd.prog W "florin/sha2.constants" .u32 (kTab.map fun (n : Nat) => (n : Int)) :=
    Lib.tabIs_of_head (rest := [("florin/sha2.initials", Rows.laid_florin_sha2_initials)]) gC gCt Tryd.underlying104 Tryd.underlying22 cells32 cells64 h
  have h2 : Lib.TabIs Tryd.prog W "florin/sha2.initials" .u32 (iTab.map fun (n : Nat) => (n : Int)) :=
    Lib.tabIs_of_head (rest := []) gI gIt Tryd.underlying73 Tryd.underlying22 cells32 cells8 (laidMet.tail h)
  have hk : ∀ i, i < 64 → kTab.getD i 0 < 4294967296 := by decide
  have hi : ∀ i, i < 8 → iTab.getD i 0 < 4294967296 := by decide
  refine ⟨fun i hlt => ?_, fun i hlt => ?_⟩
  · rw [h1.cell gC i (by simpa [kTab] using hlt), kAt, wc, wn_lit _ (hk i hlt)]
    congr 2
    simp [List.getD_eq_getElem?_getD]
    cases kTab[i]? <;> simp
  · rw [h2.cell gI i (by simpa [iTab] using hlt), iAt, wc, wn_lit _ (hi i hlt)]
    congr 2
    simp [List.getD_eq_getElem?_getD]
    cases iTab[i]? <;> simp

def layC : Obj → Obj
  | .cells _ t frozen => .cells (kTab.map fun (n : Nat) => Value.int .u32 (n : Int)).toArray t frozen
  | o => o
def layI : Obj → Obj
  | .cells _ t frozen => .cells (iTab.map fun (n : Nat) => Value.int .u32 (n : Int)).toArray t frozen
  | o => o
/-- A world for the witness: the settled one, the tables holding what their initialisers lay. -/
noncomputable def tabWorld (os : Os) : World :=
  { World.holding Tryd.prog os ⟨#[], #[], []⟩ with heap := ((World.holding Tryd.prog os ⟨#[], #[], []⟩).heap.modify 1 layC).modify 0 layI }
end Go.Proofs.YtjgdmpbaikhflaaDoor
