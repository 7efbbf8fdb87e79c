/- Ps; Tie2: put together for the claim. -/
import Derived.Test.YtmdllemgjhkphaaDoorPr18
import Derived.Test.YtmdllemgjhkphaaDoorCards
import Derived.Test.YtmdllemgjhkphaaDoorTie
import Derived.Test.YtmdllemgjhkphaaDoorPr1
import Derived.WalkKit
import Derived.ProofKit
import Derived.OpenShut
import Derived.ChangeOld
import Derived.Deep.DeepHandedRow
import Derived.Lib.LaidTab
import Derived.Stop.LaidErr
/- partial.Size, and its closure. -/
namespace Go.Proofs.YtmdllemgjhkphaaDoor
open Go.RowKit
attribute [local go_sem high] slB_lh slB_l slB_h
set_option maxRecDepth 100000 in
set_option maxHeartbeats 4000000 in
theorem PSize1 (h i : Int) (d t : Bool) (D H a b : Nat) (ha : a ≤ 100000) (hb : b ≤ 100000) (hDH : D ≠ H) (w : World) (aD : Av w D 3 [.int .i64 (a : Int)]) (aH : Av w H 3 [.int .i64 (b : Int)]) :
    Calls Tryd.prog 34 #[.agg (ndc h i).toArray, .bool d, .bool t, .pointer (some ⟨D, 0, none⟩), .pointer (some ⟨H, 0, none⟩)] w fun e w' => (∃ r, e = .returned r) ∧
      Av w' D 3 [.int .i64 ((a + 1 : Nat) : Int)] ∧ Av w' H 3 [.int .i64 ((b + if t then 1 else 0 : Nat) : Int)] ∧ Fr (fun j => j = D ∨ j = H) w w' := by
  obtain ⟨W, hW⟩ : ∃ W, W = w.alloc (.cells (ndc h i).toArray 72) := ⟨_, rfl⟩
  have bW : Below w.heap.size w W := by rw [hW]; exact (Below.refl _ _).alloc (Nat.le_refl _) _
  have aD1 := aD.below bW
  have aH1 := aH.below bW
  have cD := aD1.cell 0 _ rfl
  have cH := aH1.cell 0 _ rfl
  have fD := frozen_of_row _ _ 0 _ _ aD1
  have fH := frozen_of_row _ _ 0 _ _ aH1
  have f1 := Fr.setCell W ⟨D, 0, none⟩ (.int .i64 ((a : Int) + 1))
  have aD2 := aD1.set 0 (.int .i64 ((a : Int) + 1))
  have aH2 := f1.av aH1 (Ne.symm hDH)
  have cH2 := aH2.cell 0 _ rfl
  have fH2 := frozen_of_row _ _ 0 _ _ aH2
  replace hW := Lib.hid hW
  replace f1 := Lib.hid f1
  replace aD2 := Lib.hid aD2
  go_enter Tryd.func34, Tryd.ntmps34
  go_upto_region 1 with fail
  rw [← hW.out]
  cases t with
  | false =>
    go_wp2
    refine bodyPost_endN rfl rfl ⟨⟨_, rfl⟩, aD2.out, by simpa using aH2, ?_⟩
    exact (Below.fr bW).trans (f1.out.weaken fun k _ e => .inl e)
  | true =>
    go_wp2
    have f2 := Fr.setCell (W.setCell ⟨D, 0, none⟩ (.int .i64 ((a : Int) + 1))) ⟨H, 0, none⟩ (.int .i64 ((b : Int) + 1))
    refine bodyPost_endN rfl rfl ⟨⟨_, rfl⟩, f2.av aD2.out hDH, aH2.set 0 (.int .i64 ((b : Int) + 1)), ?_⟩
    exact ((Below.fr bW).trans (f1.out.weaken fun k _ e => .inl e)).trans (f2.weaken fun k _ e => .inr e)
set_option maxRecDepth 100000 in
set_option maxHeartbeats 8000000 in
theorem PSize_no (Am : Option Addr) (n : Int) (nm cm : Nat) (hn : n ≤ 0) (w : World) : Calls Tryd.prog 16 #[.int .i64 n, .slice Am nm cm] w fun e w' => e = .returned (.tuple #[.int .i64 0, .int .i64 0]) ∧ Below w.heap.size w w' := by
  by_cases h : n < 0
  · have t1 : decide (n < 0) = true := by simpa using h
    go_enter Tryd.func16, Tryd.ntmps16
    go_wp2
    go_ret2
    exact ⟨rfl, Below.refl _ _⟩
  · obtain rfl : n = 0 := by omega
    replace h := Lib.hid h
    go_enter Tryd.func16, Tryd.ntmps16
    go_wp2
    go_ret2
    exact ⟨rfl, Below.refl _ _⟩
set_option maxRecDepth 100000 in
set_option maxHeartbeats 8000000 in
theorem PSize (ms : List Bool) (Am : Option Addr) (N nm cm : Nat) (hN0 : 0 < N) (hN4 : N ≤ 4096) (hnm : ms.length = nm) (hnm2 : nm ≤ 1000000) (w : World) (hrm : Rd w Am (ms.map Value.bool)) :
    Calls Tryd.prog 16 #[.int .i64 (N : Int), .slice Am nm cm] w fun e w' => e = .returned (.tuple #[.int .i64 (((pAll N ms).filter PV.told).length : Int), .int .i64 ((pAll N ms).length : Int)]) ∧ Below w.heap.size w w' := by
  have t0 : ((N : Int) == 0) = false := by simp; omega
  have t1 : ¬ (4096 < N) := by omega
  have t2 : decide (4096 < N) = false := by simp; omega
  obtain ⟨W, hW⟩ : ∃ W, W = (w.alloc (Obj.cells #[Value.int .i64 0] 3)).alloc (Obj.cells #[Value.int .i64 0] 3) := ⟨_, rfl⟩
  obtain ⟨H, hH⟩ : ∃ H, H = w.heap.size := ⟨_, rfl⟩
  have bW : Below w.heap.size w W := by rw [hW]; exact ((Below.refl _ _).alloc (Nat.le_refl _) _).alloc (by simp) _
  have aH : Av W H 3 [.int .i64 0] := by rw [hW, hH]; exact Av.newer w [Value.int .i64 0] _ _
  have aD : Av W (H + 1) 3 [.int .i64 0] := by rw [hW, hH, ← World.size_alloc w (Obj.cells #[Value.int .i64 0] 3)]; exact Av.new _ _ _
  have rm := hrm.below bW
  have HW : Calls Tryd.prog 27 #[.int .i64 (N : Int), .slice Am nm cm, .func (.func 34) #[] #[.pointer (some ⟨H + 1, 0, none⟩), .pointer (some ⟨H, 0, none⟩)]] W fun e w' => (∃ r, e = .returned r) ∧ (Below w.heap.size w w' ∧ Av w' (H + 1) 3 [.int .i64 ((pAll N ms).length : Int)] ∧ Av w' H 3 [.int .i64 (((pAll N ms).filter PV.told).length : Int)]) := by
    refine PWalk ms nm cm Am N 34 #[.pointer (some ⟨H + 1, 0, none⟩), .pointer (some ⟨H, 0, none⟩)] hnm hnm2 hN0 hN4 (fun s w' => Below w.heap.size w w' ∧ Av w' (H + 1) 3 [.int .i64 (s.length : Int)] ∧ Av w' H 3 [.int .i64 ((s.filter PV.told).length : Int)]) W.heap.size (fun args w => MuLone.run_callFunc_enter Tryd.func34 (by kernel_rfl) rfl args w) ?_ ?_ ?_ W rfl ?_
    · rintro s v v' ⟨b, hd, hh⟩ h
      exact ⟨h.below b bW.size b.size, h.av hd (by decide), h.av hh (by decide)⟩
    · rintro s v ⟨b, _⟩
      exact hrm.below b
    · rintro s x r v ⟨b, hd, hh⟩ hall hxh hxi
      have hlen := pVis_length N ms (pHt N) 0
      have hp : 2 ^ (pHt N + 1) ≤ 2 ^ 13 := Nat.pow_le_pow_right (by omega) (by have := (pHt_spec N hN4).1; omega)
      have hsl := congrArg List.length hall
      rw [List.length_append] at hsl
      have hfl := List.length_filter_le PV.told s
      refine (PSize1 (x.h : Int) (x.i : Int) x.d x.told (H + 1) H s.length (s.filter PV.told).length (by omega) (by omega) (by omega) v hd hh).mono ?_
      rintro e v' ⟨r, a1, a2, f⟩
      refine ⟨r, ⟨b.trans (f.below (fun k hk => by rcases hk with rfl | rfl <;> omega) b.size), ?_, ?_⟩, ?_⟩
      · rw [List.length_append]; exact a1
      · have e2 : (List.filter PV.told (s ++ [x])).length = (s.filter PV.told).length + if x.told then 1 else 0 := by
          rw [List.filter_append, List.length_append]
          cases h : x.told <;> simp [h]
        rw [e2]
        exact a2
      · refine ⟨f.os, f.tape, f.output, f.size, fun k cs fz e => f.block k (Array.getElem?_eq_some_iff.1 e).1 fun hk => ?_⟩
        unfold Av at hd hh
        rcases hk with rfl | rfl
        · rw [hd] at e
          injection Option.some.inj e with _ h2
          exact absurd h2 (by decide)
        · rw [hh] at e
          injection Option.some.inj e with _ h2
          exact absurd h2 (by decide)
    · exact ⟨bW, aD, aH⟩
  replace hW := Lib.hid hW
  replace hH := Lib.hid hH
  replace HW := Lib.hid HW
  clear aH aD rm
  go_enter Tryd.func16, Tryd.ntmps16
  go_upto_region 5 with fail
  rw [← hH.out, ← hW.out]
  go_upto_region 6 with (go_at_call 27; refine (HW.out).mono ?_; rintro e w6 ⟨⟨r, rfl⟩, b6, aD6, aH6⟩)
  refine wp_region_rel [] Ext (by kernel_rfl) (by kernel_rfl) (by kernel_rfl) Ext.refl Ext.trans (by intro p hp; cases hp) ?_
  refine relPure Ext.refl rfl rfl rfl rfl (c := .int .i64 (((pAll N ms).filter PV.told).length : Int)) (fun w hw => by have := (aH6.below hw.drew).cell 0 _ rfl; go_simp; first | done | rfl) (by simp only [List.set_cons_succ, List.set_cons_zero]; rfl) ?_
  refine relPure Ext.refl rfl rfl rfl rfl (c := .int .i64 ((pAll N ms).length : Int)) (fun w hw => by have := (aD6.below hw.drew).cell 0 _ rfl; go_simp; first | done | rfl) (by simp only [List.set_cons_succ, List.set_cons_zero]; rfl) ?_
  refine relMove Ext.refl rfl rfl rfl rfl _ (.inr rfl) (by conv => lhs; whnf) (by simp only [List.set_cons_succ, List.set_cons_zero]; rfl) ?_
  refine relMove Ext.refl rfl rfl rfl rfl _ (.inr rfl) (by conv => lhs; whnf) (by simp only [List.set_cons_succ, List.set_cons_zero]; rfl) ?_
  refine relEnd fun w7 hw7 => fill_end ?_
  go_wp2
  go_ret2
  exact ⟨rfl, b6.trans (hw7.drew.mono b6.size)⟩
end Go.Proofs.YtmdllemgjhkphaaDoor
/- The tables of SHA-256 out of what a row lists; a world for the witness. -/
namespace Go.Proofs.YtmdllemgjhkphaaDoor
open Go.ChangeShapes Go.WideShapes Go.ChangeAt Go.RowKit

theorem gC : Tryd.prog.globalNamed "florin/sha2.constants" = some 1 := by kernel_rfl
theorem gI : Tryd.prog.globalNamed "florin/sha2.initials" = some 0 := by kernel_rfl
theorem gCt : (Tryd.prog.globals[1]?).map (·.type) = some 120 := by kernel_rfl
theorem gIt : (Tryd.prog.globals[0]?).map (·.type) = some 105 := by kernel_rfl
theorem cells64 : Tryd.prog.cellsOf 120 = 64 := by kernel_rfl
theorem cells8 : Tryd.prog.cellsOf 105 = 8 := by kernel_rfl
theorem cells32 : Tryd.prog.cellsOf 22 = 1 := by kernel_rfl
/-- what the rows list -/
def laidTabs : List (String × DataW Unit) := [("florin/sha2.constants", Rows.laid_florin_sha2_constants), ("florin/sha2.initials", Rows.laid_florin_sha2_initials)]
theorem tabs_of_laid {W : World} (h : laidMet Tryd.prog laidTabs W) : Tabs W := by
  have h1 : Lib.TabIs Tryd.prog W "florin/sha2.constants" .u32 (kTab.map fun (n : Nat) => (n : Int)) :=
    Lib.tabIs_of_head (rest := [("florin/sha2.initials", Rows.laid_florin_sha2_initials)]) gC gCt Tryd.underlying120 Tryd.underlying22 cells32 cells64 h
  have h2 : Lib.TabIs Tryd.prog W "florin/sha2.initials" .u32 (iTab.map fun (n : Nat) => (n : Int)) :=
    Lib.tabIs_of_head (rest := []) gI gIt Tryd.underlying105 Tryd.underlying22 cells32 cells8 (laidMet.tail h)
  have hk : ∀ i, i < 64 → kTab.getD i 0 < 4294967296 := by decide
  have hi : ∀ i, i < 8 → iTab.getD i 0 < 4294967296 := by decide
  refine ⟨fun i hlt => ?_, fun i hlt => ?_⟩
  · rw [h1.cell gC i (by simpa [kTab] using hlt), kAt, wc, wn_lit _ (hk i hlt)]
    congr 2
    simp [List.getD_eq_getElem?_getD]
    cases kTab[i]? <;> simp
  · rw [h2.cell gI i (by simpa [iTab] using hlt), iAt, wc, wn_lit _ (hi i hlt)]
    congr 2
    simp [List.getD_eq_getElem?_getD]
    cases iTab[i]? <;> simp

def layC : Obj → Obj
  | .cells _ t frozen => .cells (kTab.map fun (n : Nat) => Value.int .u32 (n : Int)).toArray t frozen
  | o => o
def layI : Obj → Obj
  | .cells _ t frozen => .cells (iTab.map fun (n : Nat) => Value.int .u32 (n : Int)).toArray t frozen
  | o => o
/-- A world for the witness: the settled one, the tables holding what their initialisers lay. -/
noncomputable def tabWorld (os : Os) : World :=
  { World.holding Tryd.prog os ⟨#[], #[], []⟩ with heap := ((World.holding Tryd.prog os ⟨#[], #[], []⟩).heap.modify 1 layC).modify 0 layI }
end Go.Proofs.YtmdllemgjhkphaaDoor
