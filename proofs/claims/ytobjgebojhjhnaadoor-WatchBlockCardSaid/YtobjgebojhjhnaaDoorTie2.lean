import Derived.Test.YtobjgebojhjhnaaDoorCards
import Derived.Test.YtobjgebojhjhnaaDoorTie
import Derived.Test.YtobjgebojhjhnaaDoorQr1
import Derived.WalkKit
import Derived.ProofKit
import Derived.OpenShut
import Derived.ChangeOld
import Derived.Deep.DeepHandedRow
import Derived.Lib.LaidTab
import Derived.Stop.LaidErr
namespace Go.Proofs.YtobjgebojhjhnaaDoor
open Go.ChangeShapes Go.WideShapes Go.ChangeAt Go.RowKit
theorem gC : Tryd.prog.globalNamed "florin/sha2.constants" = some 1 := by kernel_rfl
theorem gI : Tryd.prog.globalNamed "florin/sha2.initials" = some 0 := by kernel_rfl
theorem gCt : (Tryd.prog.globals[1]?).map (·.type) = some 208 := by kernel_rfl
theorem gIt : (Tryd.prog.globals[0]?).map (·.type) = some 192 := by kernel_rfl
theorem cells64 : Tryd.prog.cellsOf 208 = 64 := by kernel_rfl
theorem cells8 : Tryd.prog.cellsOf 192 = 8 := by kernel_rfl
theorem cells32 : Tryd.prog.cellsOf 28 = 1 := by kernel_rfl
def laidTabs : List (String × DataW Unit) := [("florin/sha2.constants", Rows.laid_florin_sha2_constants), ("florin/sha2.initials", Rows.laid_florin_sha2_initials)]
theorem tabs_of_laid {W : World} (h : laidMet Tryd.prog laidTabs W) : Tabs W := by
 have h1 : Lib.TabIs Tryd.prog W "florin/sha2.constants" .u32 (kTab.map fun (n : Nat) => (n : Int)) :=
  Lib.tabIs_of_head (rest := [("florin/sha2.initials", Rows.laid_florin_sha2_initials)]) gC gCt Tryd.underlying208 Tryd.underlying28 cells32 cells64 h
 have h2 : Lib.TabIs Tryd.prog W "florin/sha2.initials" .u32 (iTab.map fun (n : Nat) => (n : Int)) :=
  Lib.tabIs_of_head (rest := []) gI gIt Tryd.underlying192 Tryd.underlying28 cells32 cells8 (laidMet.tail h)
 have hk : ∀ i, i < 64 → kTab.getD i 0 < 4294967296 := by decide
 have hi : ∀ i, i < 8 → iTab.getD i 0 < 4294967296 := by decide
 refine ⟨fun i hlt => ?_, fun i hlt => ?_⟩
 ·rw [h1.cell gC i (by simpa [kTab] using hlt), kAt, wc, wn_lit _ (hk i hlt)]
  congr 2
  simp [List.getD_eq_getElem?_getD]
  cases kTab[i]? <;> simp
 ·rw [h2.cell gI i (by simpa [iTab] using hlt), iAt, wc, wn_lit _ (hi i hlt)]
  congr 2
  simp [List.getD_eq_getElem?_getD]
  cases iTab[i]? <;> simp
def layC : Obj → Obj
 | .cells _ t frozen => .cells (kTab.map fun (n : Nat) => Value.int .u32 (n : Int)).toArray t frozen
 | o => o
def layI : Obj → Obj
 | .cells _ t frozen => .cells (iTab.map fun (n : Nat) => Value.int .u32 (n : Int)).toArray t frozen
 | o => o
noncomputable def tabWorld (os : Os) : World :=
 { World.holding Tryd.prog os ⟨#[], #[], []⟩ with heap := ((World.holding Tryd.prog os ⟨#[], #[], []⟩).heap.modify 1 layC).modify 0 layI }
end Go.Proofs.YtobjgebojhjhnaaDoor
