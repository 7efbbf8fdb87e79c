/- Opn; Opa; Tie2: put together for the claim. -/
import Derived.Test.YtngindljhlbglaaDoorHash
import Derived.Test.YtngindljhlbglaaDoorOpb
import Derived.WalkKit
import Derived.ProofKit
import Derived.OpenShut
import Derived.ChangeOld
import Derived.Deep.Slices
import Derived.Test.YtngindljhlbglaaDoorCards
import Derived.Test.YtngindljhlbglaaDoorTie
import Derived.Test.YtngindljhlbglaaDoorShTab
import Derived.Deep.DeepHandedRow
import Derived.Lib.LaidTab
import Derived.Stop.LaidErr
/- What came in, opened: slices of hashes. -/
namespace Go.Proofs.YtngindljhlbglaaDoor
open Go.RowKit Go.ChangeShapes Go.WideShapes Go.ChangeAt

section
variable {H : Type} {enc : TypeId × Value → H} {w : World} {base : Nat} {spare : Nat → Bool} {held : Bool}
/-- a slice of hashes that came in -/
theorem open_hashes {fuel : Nat} {A : Option Addr} {n c : Nat} {x : DataW H × List MemPlace} (h : DataW.trod enc Tryd.prog w base spare held fuel 22 [.slice A n c] = some x) :
    ∃ l : List (List UInt8), l.length = n ∧ All32 l ∧ n ≤ c ∧ c ≤ maxLen ∧ Rd w A (hcl l) := by
  rcases Go.Deep.open_slice Tryd.underlying22 h with ⟨hcs, _⟩ | ⟨a, len, cap, m, k, D, Pl, hcs, _, hl, hm, hmm, _, hx⟩
  · simp at hcs
    obtain ⟨rfl, rfl, rfl⟩ := hcs
    exact ⟨[], rfl, fun _ hx => (by cases hx), Nat.le_refl _, (by decide), Rd.nil _ _⟩
  · simp at hcs
    obtain ⟨rfl, rfl, rfl⟩ := hcs
    have hlm : n ≤ m := by rw [hmm]; split <;> omega
    rw [cells_h] at hx
    obtain ⟨f, hf⟩ := Go.Deep.choose_lt (α := List UInt8) (n := n) (p := fun i bs => bs.length = 32 ∧ w.cells? base (a.add (i * 32)) 32 = some (bs.map bv)) (fun i hi => by
      obtain ⟨cs', h1, h2⟩ := hx i (by omega)
      obtain ⟨bs, hb1, hb2⟩ := open_hash h2
      exact ⟨bs, hb1, by rw [h1, hb2]⟩)
    have hlen : ((List.range n).map f).length = n := by simp
    have h32 : All32 ((List.range n).map f) := fun y hy => by
      obtain ⟨i, hi, rfl⟩ := List.mem_map.1 hy
      exact (hf i (List.mem_range.1 hi)).1
    refine ⟨(List.range n).map f, hlen, h32, hl, hm, ?_⟩
    by_cases hn : n = 0
    · subst hn
      exact Rd.nil _ _
    · have hcell : ∀ i r, i < n → r < 32 → w.cell? ((a.add (i * 32)).add r) = ((f i).map bv)[r]? := fun i r hi hr => (World.cells?_some (hf i hi).2).2.2 r hr
      have hs : a.spot = none := by
        have h0 := hcell 0 0 (by omega) (by omega)
        have hl0 := (hf 0 (by omega)).1
        rw [List.getElem?_map, List.getElem?_eq_getElem (by omega)] at h0
        cases hsp : a.spot with
        | none => rfl
        | some s =>
          simp [World.cell?, Addr.add, hsp] at h0
          split at h0 <;> simp at h0
      have ha : a = ⟨a.block, a.off, none⟩ := by cases a; simp_all
      refine .inr ⟨a.block, a.off, by rw [← ha], fun j u hu => ?_⟩
      have hj : j < 32 * n := by
        have := (List.getElem?_eq_some_iff.1 hu).1
        rw [hcl_length h32, hlen] at this
        exact this
      have hg := hcl_get h32 (j / 32) (j % 32) (by rw [hlen]; omega) (by omega)
      rw [show 32 * (j / 32) + j % 32 = j by omega] at hg
      rw [hg] at hu
      have hgd : ((List.range n).map f).getD (j / 32) [] = f (j / 32) := by
        rw [List.getD_eq_getElem?_getD, List.getElem?_map, List.getElem?_range (by omega)]
        rfl
      rw [hgd] at hu
      have hcl := hcell (j / 32) (j % 32) (by omega) (by omega)
      rw [hu, ha, addr_add, addr_add] at hcl
      rw [← hcl]
      congr 2
      omega
end
end Go.Proofs.YtngindljhlbglaaDoor
/- What came in, opened: an array. -/
namespace Go.Proofs.YtngindljhlbglaaDoor
open Go.RowKit Go.ChangeShapes Go.WideShapes Go.ChangeAt
theorem okWide_arrayP {P : Program} {w : World} {r : Reach} {base : Nat} {t : TypeId} {v : Value} {n : Nat} {e : TypeId} (ht : P.underlying t = some (.array n e)) (h : Value.okWide P w r base t v) : ∃ cs, v = .agg cs := by
  simp only [Value.okWide, ht] at h
  obtain ⟨cs, h1, _⟩ := h
  exact ⟨cs, h1⟩
end Go.Proofs.YtngindljhlbglaaDoor
/- The tables of SHA-256 out of what a row lists; a world for the witness. -/
namespace Go.Proofs.YtngindljhlbglaaDoor
open Go.ChangeShapes Go.WideShapes Go.ChangeAt Go.RowKit

theorem gC : Tryd.prog.globalNamed "florin/sha2.constants" = some 1 := by kernel_rfl
theorem gI : Tryd.prog.globalNamed "florin/sha2.initials" = some 0 := by kernel_rfl
theorem gCt : (Tryd.prog.globals[1]?).map (·.type) = some 64 := by kernel_rfl
theorem gIt : (Tryd.prog.globals[0]?).map (·.type) = some 50 := by kernel_rfl
theorem cells64 : Tryd.prog.cellsOf 64 = 64 := by kernel_rfl
theorem cells8 : Tryd.prog.cellsOf 50 = 8 := by kernel_rfl
theorem cells32 : Tryd.prog.cellsOf 49 = 1 := by kernel_rfl
/-- what the rows list -/
def laidTabs : List (String × DataW Unit) := [("florin/sha2.constants", Rows.laid_florin_sha2_constants), ("florin/sha2.initials", Rows.laid_florin_sha2_initials)]
theorem tabs_of_laid {W : World} (h : laidMet Tryd.prog laidTabs W) : Tabs W := by
  have h1 : Lib.TabIs Tryd.prog W "florin/sha2.constants" .u32 (kTab.map fun (n : Nat) => (n : Int)) :=
    Lib.tabIs_of_head (rest := [("florin/sha2.initials", Rows.laid_florin_sha2_initials)]) gC gCt Tryd.underlying64 Tryd.underlying49 cells32 cells64 h
  have h2 : Lib.TabIs Tryd.prog W "florin/sha2.initials" .u32 (iTab.map fun (n : Nat) => (n : Int)) :=
    Lib.tabIs_of_head (rest := []) gI gIt Tryd.underlying50 Tryd.underlying49 cells32 cells8 (laidMet.tail h)
  have hk : ∀ i, i < 64 → kTab.getD i 0 < 4294967296 := by decide
  have hi : ∀ i, i < 8 → iTab.getD i 0 < 4294967296 := by decide
  refine ⟨fun i hlt => ?_, fun i hlt => ?_⟩
  · rw [h1.cell gC i (by simpa [kTab] using hlt), kAt, wc, wn_lit _ (hk i hlt)]
    congr 2
    simp [List.getD_eq_getElem?_getD]
    cases kTab[i]? <;> simp
  · rw [h2.cell gI i (by simpa [iTab] using hlt), iAt, wc, wn_lit _ (hi i hlt)]
    congr 2
    simp [List.getD_eq_getElem?_getD]
    cases iTab[i]? <;> simp

def layC : Obj → Obj
  | .cells _ t frozen => .cells (kTab.map fun (n : Nat) => Value.int .u32 (n : Int)).toArray t frozen
  | o => o
def layI : Obj → Obj
  | .cells _ t frozen => .cells (iTab.map fun (n : Nat) => Value.int .u32 (n : Int)).toArray t frozen
  | o => o
/-- A world for the witness: the settled one, the tables holding what their initialisers lay. -/
noncomputable def tabWorld (os : Os) : World :=
  { World.holding Tryd.prog os ⟨#[], #[], []⟩ with heap := ((World.holding Tryd.prog os ⟨#[], #[], []⟩).heap.modify 1 layC).modify 0 layI }
end Go.Proofs.YtngindljhlbglaaDoor
