import Derived.Test.YtobjgebojhjhnaaGreatDoorCards
import Derived.Test.YtobjgebojhjhnaaGreatDoorTie
import Derived.Test.YtobjgebojhjhnaaGreatDoorQr2
import Derived.WalkKit
import Derived.ProofKit
import Derived.OpenShut
import Derived.ChangeOld
import Derived.Deep.DeepHandedRow
import Derived.Lib.LaidTab
import Derived.Stop.LaidErr
namespace Go.Proofs.YtobjgebojhjhnaaGreatDoor
open Go.ChangeShapes Go.WideShapes Go.ChangeAt Go.RowKit
theorem gC:Tryz.prog.globalNamed "florin/sha2.constants" =some 1:=by kernel_rfl
theorem gI:Tryz.prog.globalNamed "florin/sha2.initials" =some 0:=by kernel_rfl
theorem SH:(Tryz.prog.globals[1]?).map (·.type)=some 253:=by kernel_rfl
theorem SI:(Tryz.prog.globals[0]?).map (·.type)=some 232:=by kernel_rfl
theorem NB:Tryz.prog.cellsOf 253=64:=by kernel_rfl
theorem PN:Tryz.prog.cellsOf 232=8:=by kernel_rfl
theorem GB:Tryz.prog.cellsOf 28=1:=by kernel_rfl
def Lv:List (String × DataW Unit):=[("florin/sha2.constants",Rows.laid_florin_sha2_constants),("florin/sha2.initials",Rows.laid_florin_sha2_initials)]
theorem Co {W:World} (h:laidMet Tryz.prog Lv W):fW W:=by
 have h1:Lib.TabIs Tryz.prog W "florin/sha2.constants" .u32 (wO.map fun (n:Nat)=>(n:Int)):=
  Lib.tabIs_of_head (rest:=[("florin/sha2.initials",Rows.laid_florin_sha2_initials)]) gC SH Tz Tp GB NB h
 have h2:Lib.TabIs Tryz.prog W "florin/sha2.initials" .u32 (GN.map fun (n:Nat)=>(n:Int)):=
  Lib.tabIs_of_head (rest:=[]) gI SI Te Tp GB PN (laidMet.tail h)
 have hk:∀ i,i<64→wO.getD i 0<4294967296:=by decide
 have hi:∀ i,i<8→GN.getD i 0<4294967296:=by decide
 refine⟨fun i hlt=>?_,fun i hlt=>?_⟩
 ·rw[h1.cell gC i (by simpa [wO] using hlt),IA,wc,mW _ (hk i hlt)]
  congr 2
  simp[List.getD_eq_getElem?_getD]
  cases wO[i]? <;> simp
 ·rw[h2.cell gI i (by simpa [GN] using hlt),Lx,wc,mW _ (hi i hlt)]
  congr 2
  simp[List.getD_eq_getElem?_getD]
  cases GN[i]? <;> simp
def Sc:Obj→Obj
 | .cells _ t frozen=>.cells (wO.map fun (n:Nat)=>Value.int .u32 (n:Int)).toArray t frozen
 |o=>o
def Se:Obj→Obj
 | .cells _ t frozen=>.cells (GN.map fun (n:Nat)=>Value.int .u32 (n:Int)).toArray t frozen
 |o=>o
noncomputable def yJ (os:Os):World:=
 {World.holding Tryz.prog os ⟨#[],#[],[]⟩ with heap:=((World.holding Tryz.prog os ⟨#[],#[],[]⟩).heap.modify 1 Sc).modify 0 Se}
end Go.Proofs.YtobjgebojhjhnaaGreatDoor
