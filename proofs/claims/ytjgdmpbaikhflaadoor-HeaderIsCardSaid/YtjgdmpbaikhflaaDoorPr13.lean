/- Tie2; Aw7: put together for the claim. -/
import Derived.Test.YtjgdmpbaikhflaaDoorCards
import Derived.Test.YtjgdmpbaikhflaaDoorTie
import Derived.Test.YtjgdmpbaikhflaaDoorPr3
import Derived.WalkKit
import Derived.ProofKit
import Derived.OpenShut
import Derived.ChangeOld
import Derived.Deep.DeepHandedRow
import Derived.Lib.LaidTab
import Derived.Stop.LaidErr
import Derived.Test.YtjgdmpbaikhflaaDoorHdL
/- The tables of SHA-256 out of what a row lists; a world for the witness. -/
namespace Go.Proofs.YtjgdmpbaikhflaaDoor
open Go.ChangeShapes Go.WideShapes Go.ChangeAt Go.RowKit

theorem gC : Tryd.prog.globalNamed "florin/sha2.constants" = some 1 := by kernel_rfl
theorem gI : Tryd.prog.globalNamed "florin/sha2.initials" = some 0 := by kernel_rfl
theorem gCt : (Tryd.prog.globals[1]?).map (·.type) = some 104 := by kernel_rfl
theorem gIt : (Tryd.prog.globals[0]?).map (·.type) = some 73 := by kernel_rfl
theorem cells64 : Tryd.prog.cellsOf 104 = 64 := by kernel_rfl
theorem cells8 : Tryd.prog.cellsOf 73 = 8 := by kernel_rfl
theorem cells32 : Tryd.prog.cellsOf 22 = 1 := by kernel_rfl
/-- what the rows list -/
def laidTabs : List (String × DataW Unit) := [("florin/sha2.constants", Rows.laid_florin_sha2_constants), ("florin/sha2.initials", Rows.laid_florin_sha2_initials)]
theorem tabs_of_laid {W : World} (h : laidMet Tryd.prog laidTabs W) : Tabs W := by
  have h1 : Lib.TabIs Tryd.prog W "florin/sha2.constants" .u32 (kTab.map fun (n : Nat) => (n : Int)) :=
    Lib.tabIs_of_head (rest := [("florin/sha2.initials", Rows.laid_florin_sha2_initials)]) gC gCt Tryd.underlying104 Tryd.underlying22 cells32 cells64 h
  have h2 : Lib.TabIs Tryd.prog W "florin/sha2.initials" .u32 (iTab.map fun (n : Nat) => (n : Int)) :=
    Lib.tabIs_of_head (rest := []) gI gIt Tryd.underlying73 Tryd.underlying22 cells32 cells8 (laidMet.tail h)
  have hk : ∀ i, i < 64 → kTab.getD i 0 < 4294967296 := by decide
  have hi : ∀ i, i < 8 → iTab.getD i 0 < 4294967296 := by decide
  refine ⟨fun i hlt => ?_, fun i hlt => ?_⟩
  · rw [h1.cell gC i (by simpa [kTab] using hlt), kAt, wc, wn_lit _ (hk i hlt)]
    congr 2
    simp [List.getD_eq_getElem?_getD]
    cases kTab[i]? <;> simp
  · rw [h2.cell gI i (by simpa [iTab] using hlt), iAt, wc, wn_lit _ (hi i hlt)]
    congr 2
    simp [List.getD_eq_getElem?_getD]
    cases iTab[i]? <;> simp

def layC : Obj → Obj
  | .cells _ t frozen => .cells (kTab.map fun (n : Nat) => Value.int .u32 (n : Int)).toArray t frozen
  | o => o
def layI : Obj → Obj
  | .cells _ t frozen => .cells (iTab.map fun (n : Nat) => Value.int .u32 (n : Int)).toArray t frozen
  | o => o
/-- A world for the witness: the settled one, the tables holding what their initialisers lay. -/
noncomputable def tabWorld (os : Os) : World :=
  { World.holding Tryd.prog os ⟨#[], #[], []⟩ with heap := ((World.holding Tryd.prog os ⟨#[], #[], []⟩).heap.modify 1 layC).modify 0 layI }
end Go.Proofs.YtjgdmpbaikhflaaDoor
/- florinlaw07.awake. -/
namespace Go.Proofs.YtjgdmpbaikhflaaDoor
open Go.RowKit
attribute [local go_sem high] slB_lh slB_l slB_h
def ex7 : Hd := ⟨0, List.replicate 32 0, List.replicate 32 0, 0, 545259519, 0⟩
theorem ex7_ok : ex7.ok := by unfold Hd.ok; decide
theorem ex7_mine : (mMine ex7 545259519 99).2 = true ∧ mMeets (hdId (mMine ex7 545259519 99).1) (mMine ex7 545259519 99).1.bits 545259519 = 0 := by decide +kernel
theorem mMine_ok {h : Hd} (k : h.ok) (l n : Nat) : (mMine h l n).1.ok := by
  unfold mMine
  split
  · exact Hd.nth_ok k _
  · exact k
theorem wpList_build {P : Program} {ty : TypeId} {parts : Array (Nat × Operand)} {ops : Array Oper} {rest : List Oper} {a : Act} {w : World} {Q : Exit → Act → World → Prop} {d tp pos af} (v : Value) (h : (execOp a.eval ⟨d, .build ty parts, tp, pos, af, none⟩).run P w = .ok (.value v) w) (k : wpList P ops Q rest (a.put d v) w) : wpList P ops Q (⟨d, .build ty parts, tp, pos, af, none⟩ :: rest) a w :=
  wpList_execW rfl h k
set_option maxRecDepth 10000 in
set_option maxHeartbeats 2000000 in
theorem awake7 (w : World) (ht : Tabs w) : Calls Tryd.prog 9 #[] w fun e w' => e = .returned (.bool true) ∧ Below w.heap.size w w' := by
  have HP := HdPutAll [] none 0 0 rfl (by omega) w ⟨Rd.nil _ _, fun e he => by cases he⟩
  rw [show hdAll [] = [0] from rfl] at HP
  have HM := fun w' t => HdMine ex7 ex7_ok 545259519 (by omega) 99 99 rfl w' t
  obtain ⟨y1, y2⟩ := ex7_mine
  have yok := mMine_ok ex7_ok 545259519 99
  rw [y1] at HM
  obtain ⟨y, hy⟩ : ∃ y, y = (mMine ex7 545259519 99).1 := ⟨_, rfl⟩
  rw [← hy] at HM yok y2
  have y68 := hdc_length yok
  obtain ⟨_, _, y66, _⟩ := hdc_at yok
  have HI := HdId y yok
  have HE := Meets (hdId y) (hdId_length y) y.bits 545259519 yok.2.2.2.2.1 (by omega)
  rw [y2] at HE
  have HU := HdPut y yok
  have hB80 := Lib.hid (hdB_length yok)
  have e7 : (hdc ex7).toArray.size = 68 := rfl
  have hz := zeros_68
  obtain ⟨zs, hzs⟩ : ∃ zs : List Value, zs = hdc ⟨0, List.replicate 32 0, List.replicate 32 0, 0, 0, 0⟩ := ⟨_, rfl⟩
  have hzl : zs.length = 68 := by rw [hzs]; rfl
  rw [← hzs] at hz
  clear hzs
  obtain ⟨yb, hyb⟩ : ∃ b, b = y.bits := ⟨_, rfl⟩
  rw [← hyb] at y66 HE
  obtain ⟨E, hE⟩ : ∃ E, E = (hdc ex7).toArray := ⟨_, rfl⟩
  have hbd : ∀ (a : Act) (w' : World) d tp pos af, (execOp a.eval ⟨d, .build 26 #[(4, .const (.int .u32 545259519))], tp, pos, af, none⟩).run Tryd.prog w' = .ok (.value (.agg E)) w' := fun a w' d tp pos af => by rw [hE]; kernel_rfl
  rw [← hE] at HM
  replace hbd := Lib.hid hbd
  replace HP := Lib.hid HP
  replace HM := Lib.hid HM
  replace HI := Lib.hid HI
  replace HE := Lib.hid HE
  replace HU := Lib.hid HU
  replace hE := Lib.hid hE
  replace hy := Lib.hid hy
  replace hyb := Lib.hid hyb
  replace y68 := Lib.hid y68
  replace hzl := Lib.hid hzl
  have one := Lib.hid (List.all_eq_true.2 (hdc_one y))
  clear y1 y2 e7 yok
  go_enter Tryd.func9, Tryd.ntmps9
  go_upto_region 2 with (go_at_call 17; refine (HP.out).mono ?_; rintro e w1 ⟨v1, rfl, o1, b1⟩; obtain ⟨A1, c1, rfl, hc1, _⟩ := o1.formN 1 rfl)
  have r1 := o1.rd
  obtain ⟨bb, off, rfl⟩ := r1.someA (by simp)
  go_upto_region 3 with (first
    | ((with_reducible refine wpList_build (.agg E) ?_ ?_); exact hbd.out _ _ _ _ _ _)
    | (go_at_call 10; refine (HM.out w1 (ht.below b1)).mono ?_; rintro e w2 ⟨rfl, b2⟩)
    | ((with_reducible refine wpList_storeF 26 ((Below.refl w2.heap.size w2).alloc (Nat.le_refl _) _) (heap_alloc_new _ _) (Nat.le_refl _) (hdc y) ?_ ?_ 68 y68.out ?_ ?_ ?_ ?_); rfl; rfl; kernel_rfl; (rw [List.size_toArray]; exact hzl.out); exact one.out; intro w3 a3 b3 k3 z3; clear k3; replace z3 := Lib.hid z3))
  have bw2 := b1.trans (b2.mono b1.size)
  have bw3 := bw2.trans (b3.mono bw2.size)
  have r3 := (r1.below b2).below b3
  have c3 : w3.cell? ⟨bb, off, none⟩ = some (.int .u8 0) := by
    obtain ⟨b', o', e, h⟩ := r3.cons
    cases e
    exact h 0 _ rfl
  go_wp2_with fail
  refine wp_region_relT 30 [(26, SlW (hdB y))] Ext (by kernel_rfl) (by kernel_rfl) (by kernel_rfl) (by kernel_rfl) (by kernel_rfl) Ext.refl Ext.trans (by intro p hp v w w' hR; simp only [List.mem_singleton] at hp; subst hp; exact SlW.mono hR) ?_
  refine relMove Ext.refl rfl rfl rfl rfl _ (.inl rfl) (by conv => lhs; whnf) (by simp only [List.set_cons_succ, List.set_cons_zero]; rfl) ?_
  refine relPure Ext.refl rfl rfl rfl rfl (c := .bool true) (fun w _ => by go_simp; first | done | rfl) (by simp only [List.set_cons_succ, List.set_cons_zero]; rfl) ?_
  refine relMove Ext.refl rfl rfl rfl rfl _ (.inl rfl) (by conv => lhs; whnf) (by simp only [List.set_cons_succ, List.set_cons_zero]; rfl) ?_
  refine relMove Ext.refl rfl rfl rfl rfl _ (.inl rfl) (by conv => lhs; whnf) (by simp only [List.set_cons_succ, List.set_cons_zero]; rfl) ?_
  refine relPure Ext.refl rfl rfl rfl rfl (fun w _ => by go_simp; first | done | rfl) (by simp only [List.set_cons_succ, List.set_cons_zero]; rfl) ?_
  refine relPure Ext.refl rfl rfl rfl rfl (c := .bool true) (fun w _ => by go_simp; first | done | rfl) (by simp only [List.set_cons_succ, List.set_cons_zero]; rfl) ?_
  refine relPick Ext.refl rfl rfl rfl rfl _ _ _ rfl rfl (by conv => lhs; whnf) (by simp only [List.set_cons_succ, List.set_cons_zero]; rfl) ?_
  refine relMove Ext.refl rfl rfl rfl rfl _ (.inl rfl) (by conv => lhs; whnf) (by simp only [List.set_cons_succ, List.set_cons_zero]; rfl) ?_
  refine relMove Ext.refl rfl rfl rfl rfl _ (.inl rfl) (by conv => lhs; whnf) (by simp only [List.set_cons_succ, List.set_cons_zero]; rfl) ?_
  refine relPure Ext.refl rfl rfl rfl rfl (c := .pointer (some ⟨bb, off, none⟩)) (fun w _ => by go_simp; first | done | rfl) (by simp only [List.set_cons_succ, List.set_cons_zero]; rfl) ?_
  refine relPure Ext.refl rfl rfl rfl rfl (c := .int .u8 0) (fun w hw => by have := (World.cell?_of_block (a := ⟨bb, off, none⟩) (hw.drew.block bb (World.block_lt_of_cell? w3 _ c3))).trans c3; go_simp; first | done | rfl) (by simp only [List.set_cons_succ, List.set_cons_zero]; rfl) ?_
  refine relPure Ext.refl rfl rfl rfl rfl (c := .bool true) (fun w _ => by go_simp; first | done | rfl) (by simp only [List.set_cons_succ, List.set_cons_zero]; rfl) ?_
  refine relPick Ext.refl rfl rfl rfl rfl _ _ _ rfl rfl (by conv => lhs; whnf) (by simp only [List.set_cons_succ, List.set_cons_zero]; rfl) ?_
  refine relMove Ext.refl rfl rfl rfl rfl _ (.inl rfl) (by conv => lhs; whnf) (by simp only [List.set_cons_succ, List.set_cons_zero]; rfl) ?_
  refine relMove Ext.refl rfl rfl rfl rfl _ (.inl rfl) (by conv => lhs; whnf) (by simp only [List.set_cons_succ, List.set_cons_zero]; rfl) ?_
  refine relPick Ext.refl rfl rfl rfl rfl _ _ _ rfl rfl (by conv => lhs; whnf) (by simp only [List.set_cons_succ, List.set_cons_zero]; rfl) ?_
  refine relMove Ext.refl rfl rfl rfl rfl _ (.inl rfl) (by conv => lhs; whnf) (by simp only [List.set_cons_succ, List.set_cons_zero]; rfl) ?_
  refine relPure Ext.refl rfl rfl rfl rfl (c := .agg (hdc y).toArray) (fun w hw => exec_loadAv (a3.below hw.drew) _ _ rfl rfl _ 68 y68.out Tryd.underlying26 rfl (by kernel_rfl)) (by simp only [List.set_cons_succ, List.set_cons_zero]; rfl) ?_
  refine relCall1 rfl rfl rfl rfl (c := .agg (hcs (hdId y))) 12 #[.agg (hdc y).toArray] (fun w => by go_simp) (fun w hw => (HI.out w (ht.below (bw3.trans (hw.drew.mono bw3.size)))).mono ?_) (by simp only [List.set_cons_succ, List.set_cons_zero]; rfl) ?_
  · rintro e w' ⟨rfl, hb⟩
    exact ⟨rfl, hb⟩
  refine relPure Ext.refl rfl rfl rfl rfl (fun w _ => by go_simp; first | done | rfl) (by simp only [List.set_cons_succ, List.set_cons_zero]; rfl) ?_
  refine relPure Ext.refl rfl rfl rfl rfl (c := .int .u32 (yb : Int)) (fun w hw => by have := (a3.below hw.drew).cell 66 _ y66; go_simp; first | done | rfl) (by simp only [List.set_cons_succ, List.set_cons_zero]; rfl) ?_
  refine relCall1 rfl rfl rfl rfl (c := .int .i64 0) 11 #[.agg (hcs (hdId y)), .int .u32 (yb : Int), .int .u32 545259519] (fun w => by go_simp) (fun w hw => (HE.out w).mono ?_) (by simp only [List.set_cons_succ, List.set_cons_zero]; rfl) ?_
  · rintro e w' ⟨rfl, hb⟩
    exact ⟨rfl, hb⟩
  refine relPure Ext.refl rfl rfl rfl rfl (c := .bool true) (fun w _ => by go_simp; first | done | rfl) (by simp only [List.set_cons_succ, List.set_cons_zero]; rfl) ?_
  refine relPick Ext.refl rfl rfl rfl rfl _ _ _ rfl rfl (by conv => lhs; whnf) (by simp only [List.set_cons_succ, List.set_cons_zero]; rfl) ?_
  refine relMove Ext.refl rfl rfl rfl rfl _ (.inl rfl) (by conv => lhs; whnf) (by simp only [List.set_cons_succ, List.set_cons_zero]; rfl) ?_
  refine relPure Ext.refl rfl rfl rfl rfl (c := .agg (hdc y).toArray) (fun w hw => exec_loadAv (a3.below hw.drew) _ _ rfl rfl _ 68 y68.out Tryd.underlying26 rfl (by kernel_rfl)) (by simp only [List.set_cons_succ, List.set_cons_zero]; rfl) ?_
  refine relCall _ rfl rfl rfl 14 #[.agg (hdc y).toArray] (fun w => by go_simp) (fun w hw => (HU.out w).mono ?_) ?_
  · rintro e w' ⟨A', rfl, rr, hb⟩
    exact ⟨_, rfl, hb, some A', 80, by rw [hB80.out], rr⟩
  refine relOn rfl rfl (c := .int .i64 80) (fun w hw => fill_take rfl rfl fun u hu => fill_none rfl (relOp_yes rfl ?_)) (by simp only [List.set_cons_succ, List.set_cons_zero]; rfl) ?_
  · obtain ⟨A', cc, rfl, _⟩ := hu
    rw [hB80.out]
    go_simp
    exact ⟨Ext.refl _, rfl⟩
  refine relPure Ext.refl rfl rfl rfl rfl (c := .bool true) (fun w _ => by go_simp; first | done | rfl) (by simp only [List.set_cons_succ, List.set_cons_zero]; rfl) ?_
  refine relPick Ext.refl rfl rfl rfl rfl _ _ _ rfl rfl (by conv => lhs; whnf) (by simp only [List.set_cons_succ, List.set_cons_zero]; rfl) ?_
  refine relEnd fun w4 hw4 => fill_take rfl rfl fun v' hv' => fill_end ?_
  simp only [List.set_cons_succ, List.set_cons_zero, List.drop_succ_cons, List.drop_zero]
  go_wp2
  go_ret
  exact ⟨rfl, bw3.trans (hw4.drew.mono bw3.size)⟩
end Go.Proofs.YtjgdmpbaikhflaaDoor
