/- florinref11: taker.visit, case by case. -/
import Derived.Test.YtdkknincamkhpaaDoorRp
import Derived.Test.YtdkknincamkhpaaDoorMvf
import Derived.Test.YtdkknincamkhpaaDoorPv
namespace Go.Proofs.YtdkknincamkhpaaDoor
open Go.RowKit
theorem infoMtR : (Tryd.prog.info? 96).map (fun i => (i.size, i.bytes)) = some (33, 40) := by kernel_rfl
theorem zeroMtR : (Tryd.prog.info? 96).map (fun i => (i.zero.map (·.cells.size))) = some (some 33) := by kernel_rfl
theorem built_mtR (i : Int) (x : List UInt8) (hx : x.length = 32) : Tryd.prog.built 96 [(0, .int .i64 i), (1, .agg (x.map bv).toArray)] = some ([Value.int .i64 i] ++ x.map bv).toArray := by
  obtain ⟨v0, v1, v2, v3, v4, v5, v6, v7, v8, v9, v10, v11, v12, v13, v14, v15, v16, v17, v18, v19, v20, v21, v22, v23, v24, v25, v26, v27, v28, v29, v30, v31, rfl⟩ := len32 hx
  kernel_rfl
theorem exec_build_mtR {ρ : Operand → Value} {o : Oper} {w : World} (i : Nat) (x : List UInt8) (hx : x.length = 32) {x0 x1 : Operand} (ho : o.op = .build 96 #[(0, x0), (1, x1)]) (h0 : ρ x0 = .int .i64 (i : Int)) (h1 : ρ x1 = .agg (x.map bv).toArray) :
    (execOp ρ o).run Tryd.prog w = .ok (.value (.agg (mtc (i, x)).toArray)) w := by
  have := run_build (P := Tryd.prog) w 96 #[(0, .int .i64 (i : Int)), (1, .agg (x.map bv).toArray)] _ (built_mtR i x hx)
  unfold execOp
  simp only [ho, Sem.run_bind, List.map_toArray, List.map_cons, List.map_nil, h0, h1, this, Result.andThen_ok]
  rfl
theorem FrS {B g : Nat} {w0 w w2 : World} (k : ∀ k, k ≠ g → w2.heap[k]? = w.heap[k]?) (z : w2.heap.size = w.heap.size) (b : Below B w0 w) (b2 : Below B w0 w2) : Fr (fun j => j = g) w w2 :=
  ⟨b2.os.trans b.os.symm, b2.tape.trans b.tape.symm, b2.output.trans b.output.symm, by rw [z]; exact Nat.le_refl _, fun j _ hj => k j hj⟩
/-- a new hash -/
def NewH (b : Nat) : VP := fun v w => ∃ g, v = .pointer (some ⟨g, 0, none⟩) ∧ b ≤ g ∧ Av w g 28 (zs32.map bv)
theorem NewH.mono {b : Nat} {v : Value} {w w' : World} (h : Ext w w') : NewH b v w → NewH b v w' := by
  rintro ⟨g, rfl, hb, ha⟩
  exact ⟨g, rfl, hb, ha.below h⟩
theorem exec_allocHR {ρ : Operand → Value} {w : World} (o : Oper) (ho : o.op = .alloc 28) : (execOp ρ o).run Tryd.prog w = .ok (.value (.pointer (some ⟨w.heap.size, 0, none⟩))) (w.alloc (.cells (zs32.map bv).toArray 28)) := by
  have hz := zeros_32
  rw [show List.replicate 32 (0 : UInt8) = zs32 from rfl] at hz
  unfold execOp
  simp only [ho]
  go_simp
set_option maxRecDepth 100000 in
set_option maxHeartbeats 4000000 in
theorem TV_none (fl : List UInt8) (hs : List (List UInt8)) (tot : Nat) (Ah : Option Addr) (nh ch : Nat) (Af : Option Addr) (nf cf R : Nat) (hnh : hs.length = nh) (hnf : fl.length = nf) (hnf2 : nf ≤ 10000) (_ : nh ≤ 10000) (w0 : World) (_ : Rd w0 Ah (hcl hs)) (_ : Rd w0 Af (fl.map bv)) (hBR : w0.heap.size ≤ R)
    (i d k : Nat) (_ : i ≤ 5000) (hk : k ≤ nh) (l : List (Nat × List UInt8)) (M : Value) (w : World) (hb : Below w0.heap.size w0 w) (hA : Av w R 125 (tkc tot Ah nh ch Af nf cf d k M false)) (ho : w.ownsRow w0.heap.size 96 33 M l.length (mlc l))
    (h : Int) (hd : 8 * nf ≤ d) (hd2 : d ≤ 8 * nf) :
    Calls Tryd.prog 66 #[.pointer (some ⟨R, 0, none⟩), (.int .i64 h), .int .i64 (i : Int)] w (TVPost tot Ah nh ch Af nf cf R w0 l w none) := by
  have hz := zeros_32
  rw [show List.replicate 32 (0 : UInt8) = zs32 from rfl] at hz
  obtain ⟨W, hW⟩ : ∃ W, W = w.alloc (.cells (zs32.map bv).toArray 28) := ⟨_, rfl⟩
  obtain ⟨G, hG⟩ : ∃ G, G = w.heap.size := ⟨_, rfl⟩
  have bW : Below w.heap.size w W := by rw [hW]; exact (Below.refl _ _).alloc (Nat.le_refl _) _
  have aG : Av W G 28 (zs32.map bv) := by rw [hW, hG]; exact heap_alloc_new _ _
  have aR := hA.below bW
  have oM := own_below ho bW
  have hRG : R ≠ G := by have := hA.lt; omega
  have hGR : G ≠ R := Ne.symm hRG
  have hGw : w0.heap.size ≤ G := by rw [hG]; exact hb.size
  have b0 : Below w0.heap.size w0 W := hb.trans (bW.mono hb.size)
  have hzone : (zs32.map bv).all (·.oneCell') = true := rfl
  have oR := own_ne oM aR (by decide)
  have K0 : KeepT R w W := KeepT.ofBelow bW
  have hGw2 : w.heap.size ≤ G := by omega
  clear hA ho bW
  have HN := TNext_no tot Ah nh ch Af nf cf d k R M false hd (by omega) W aR
  replace hW := Lib.hid hW
  replace hG := Lib.hid hG
  replace hzone := Lib.hid hzone
  replace HN := Lib.hid HN
  replace hnh := Lib.hid hnh
  replace hnf := Lib.hid hnf
  replace oR := Lib.hid oR
  replace hd := Lib.hid hd
  go_enter Tryd.func66, Tryd.ntmps66
  go_upto_region 1 with fail
  rw [← hW.out, ← hG.out]
  go_upto_region 2 with (go_at_call 67; refine HN.out.mono ?_; rintro e w1 ⟨rfl, a1, f1⟩)
  have g1 := f1.av aG hGR
  have b1 : Below w0.heap.size w0 w1 := b0.trans (f1.below (fun j e => by rw [e]; exact hBR) b0.size)
  have o1 := own_fr oM f1 (fun j e h => oR.out (by rw [e, h]))
  have c7 := a1.cell 7 _ rfl
  have K1 := K0.trans (KeepT.ofFr f1)
  clear HN aR aG oM b0 f1 K0
  go_wp2_with (first
    | ((with_reducible refine wpList_build (.agg (zs32.map bv).toArray) ?_ ?_); (go_simp; first | done | rfl))
    | ((with_reducible refine wpList_storeFA 28 b1 g1 hGw (zs32.map bv) ?_ ?_ 32 rfl ?_ ?_ ?_ ?_); rfl; rfl; kernel_rfl; rfl; exact hzone.out; intro w9 a9 b9 k9 z9))
  refine bodyPost_ret (results_cell_row rfl _ _ G _ _ (0, 0) _ rfl a9 Tryd.underlying28 rfl (by kernel_rfl)) rfl ⟨b9, K1.store hGw2 k9 z9, rfl, d, k, M, hd2, hk, a1.same (k9 R hRG)⟩
set_option maxRecDepth 100000 in
set_option maxHeartbeats 4000000 in
theorem TV_leaf0_no (fl : List UInt8) (hs : List (List UInt8)) (tot : Nat) (Ah : Option Addr) (nh ch : Nat) (Af : Option Addr) (nf cf R : Nat) (hnh : hs.length = nh) (hnf : fl.length = nf) (hnf2 : nf ≤ 10000) (_ : nh ≤ 10000) (w0 : World) (_ : Rd w0 Ah (hcl hs)) (hrf : Rd w0 Af (fl.map bv)) (hBR : w0.heap.size ≤ R)
    (i d k : Nat) (_ : i ≤ 5000) (hk : k ≤ nh) (l : List (Nat × List UInt8)) (M : Value) (w : World) (hb : Below w0.heap.size w0 w) (hA : Av w R 125 (tkc tot Ah nh ch Af nf cf d k M false)) (ho : w.ownsRow w0.heap.size 96 33 M l.length (mlc l))
    (hd : pDig fl d = some false) (hkn : nh ≤ k) :
    Calls Tryd.prog 66 #[.pointer (some ⟨R, 0, none⟩), (.int .i64 0), .int .i64 (i : Int)] w (TVPost tot Ah nh ch Af nf cf R w0 l w none) := by
  have hz := zeros_32
  rw [show List.replicate 32 (0 : UInt8) = zs32 from rfl] at hz
  obtain ⟨W, hW⟩ : ∃ W, W = w.alloc (.cells (zs32.map bv).toArray 28) := ⟨_, rfl⟩
  obtain ⟨G, hG⟩ : ∃ G, G = w.heap.size := ⟨_, rfl⟩
  have bW : Below w.heap.size w W := by rw [hW]; exact (Below.refl _ _).alloc (Nat.le_refl _) _
  have aG : Av W G 28 (zs32.map bv) := by rw [hW, hG]; exact heap_alloc_new _ _
  have aR := hA.below bW
  have oM := own_below ho bW
  have hRG : R ≠ G := by have := hA.lt; omega
  have hGR : G ≠ R := Ne.symm hRG
  have hGw : w0.heap.size ≤ G := by rw [hG]; exact hb.size
  have b0 : Below w0.heap.size w0 W := hb.trans (bW.mono hb.size)
  have hzone : (zs32.map bv).all (·.oneCell') = true := rfl
  have oR := own_ne oM aR (by decide)
  have K0 : KeepT R w W := KeepT.ofBelow bW
  have hGw2 : w.heap.size ≤ G := by omega
  clear hA ho bW
  have tk : decide ((nh : Int) ≤ (k : Int)) = true := by simp; omega
  have HN := TNext fl false tot Ah nh ch Af nf cf d k R M false hnf hnf2 hd (by have := pDig_some hd; omega) W aR (hrf.below b0)
  have hdl := pDig_some hd
  replace hW := Lib.hid hW
  replace hG := Lib.hid hG
  replace hzone := Lib.hid hzone
  replace HN := Lib.hid HN
  replace hnh := Lib.hid hnh
  replace hnf := Lib.hid hnf
  replace oR := Lib.hid oR
  replace hd := Lib.hid hd
  go_enter Tryd.func66, Tryd.ntmps66
  go_upto_region 1 with fail
  rw [← hW.out, ← hG.out]
  go_upto_region 2 with (go_at_call 67; refine HN.out.mono ?_; rintro e w1 ⟨rfl, a1, f1⟩)
  have g1 := f1.av aG hGR
  have b1 : Below w0.heap.size w0 w1 := b0.trans (f1.below (fun j e => by rw [e]; exact hBR) b0.size)
  have o1 := own_fr oM f1 (fun j e h => oR.out (by rw [e, h]))
  have c7 := a1.cell 7 _ rfl
  have K1 := K0.trans (KeepT.ofFr f1)
  clear HN aR aG oM b0 f1 K0
  go_upto_region 5 with fail
  refine wp_region_rel [] Ext (by kernel_rfl) (by kernel_rfl) (by kernel_rfl) Ext.refl Ext.trans (by intro p hp; cases hp) ?_
  refine relMove Ext.refl rfl rfl rfl rfl _ (.inl rfl) (by conv => lhs; whnf) (by simp only [List.set_cons_succ, List.set_cons_zero]; rfl) ?_
  refine relPure Ext.refl rfl rfl rfl rfl (fun w _ => by go_simp; first | done | rfl) (by simp only [List.set_cons_succ, List.set_cons_zero]; rfl) ?_
  refine relPure Ext.refl rfl rfl rfl rfl (fun w _ => by go_simp; first | done | rfl) (by simp only [List.set_cons_succ, List.set_cons_zero]; rfl) ?_
  refine relPure Ext.refl rfl rfl rfl rfl (c := .int .i64 (k : Int)) (fun w hw => by have := (a1.below hw.drew).cell 5 _ rfl; go_simp; first | done | rfl) (by simp only [List.set_cons_succ, List.set_cons_zero]; rfl) ?_
  refine relMove Ext.refl rfl rfl rfl rfl _ (.inl rfl) (by conv => lhs; whnf) (by simp only [List.set_cons_succ, List.set_cons_zero]; rfl) ?_
  refine relPure Ext.refl rfl rfl rfl rfl (fun w _ => by go_simp; first | done | rfl) (by simp only [List.set_cons_succ, List.set_cons_zero]; rfl) ?_
  refine relPure Ext.refl rfl rfl rfl rfl (fun w _ => by go_simp; first | done | rfl) (by simp only [List.set_cons_succ, List.set_cons_zero]; rfl) ?_
  refine relPure Ext.refl rfl rfl rfl rfl (fun w _ => by go_simp; first | done | rfl) (by simp only [List.set_cons_succ, List.set_cons_zero]; rfl) ?_
  refine relPure Ext.refl rfl rfl rfl rfl (c := .slice Ah nh ch) (fun w hw => by have := (a1.below hw.drew).cell 1 _ rfl; go_simp; first | done | rfl) (by simp only [List.set_cons_succ, List.set_cons_zero]; rfl) ?_
  refine relPure Ext.refl rfl rfl rfl rfl (fun w _ => by go_simp; first | done | rfl) (by simp only [List.set_cons_succ, List.set_cons_zero]; rfl) ?_
  refine relPure Ext.refl rfl rfl rfl rfl (c := .bool true) (fun w hw => by go_simp; first | done | rfl) (by simp only [List.set_cons_succ, List.set_cons_zero]; rfl) ?_
  refine relEnd fun w2 hw2 => fill_end ?_
  have e2 := hw2.drew
  have a2 := a1.below e2
  have g2 := g1.below e2
  have b2 := b1.trans (e2.mono b1.size)
  have f7 := frozen_of_row _ _ 7 _ _ a2
  have d7 := a2.cell 7 _ rfl
  have a3 := a2.set 7 (.bool true)
  have g3 := g2.other ⟨R, 7, none⟩ (.bool true) hGR
  have b3 := b2.setCell (p := ⟨R, 7, none⟩) hBR (.bool true)
  have K3 := (K1.trans (KeepT.ofBelow e2)).setR (i := 7) (.bool true)
  replace a3 := Lib.hid a3
  clear c7
  go_wp2_with (first
    | ((with_reducible refine wpList_build (.agg (zs32.map bv).toArray) ?_ ?_); (go_simp; first | done | rfl))
    | ((with_reducible refine wpList_storeFA 28 b3 g3 hGw (zs32.map bv) ?_ ?_ 32 rfl ?_ ?_ ?_ ?_); rfl; rfl; kernel_rfl; rfl; exact hzone.out; intro w9 a9 b9 k9 z9))
  refine bodyPost_ret (results_cell_row rfl _ _ G _ _ (0, 0) _ rfl a9 Tryd.underlying28 rfl (by kernel_rfl)) rfl ⟨b9, K3.store hGw2 k9 z9, rfl, d + 1, k, M, by have := hdl; rw [hnf.out] at this; omega, hk, a3.out.same (k9 R hRG)⟩
set_option maxRecDepth 100000 in
set_option maxHeartbeats 4000000 in
theorem TV_leaf0 (fl : List UInt8) (hs : List (List UInt8)) (tot : Nat) (Ah : Option Addr) (nh ch : Nat) (Af : Option Addr) (nf cf R : Nat) (hnh : hs.length = nh) (hnf : fl.length = nf) (hnf2 : nf ≤ 10000) (hnh2 : nh ≤ 10000) (w0 : World) (hrh : Rd w0 Ah (hcl hs)) (hrf : Rd w0 Af (fl.map bv)) (hBR : w0.heap.size ≤ R)
    (i d k : Nat) (_ : i ≤ 5000) (_ : k ≤ nh) (l : List (Nat × List UInt8)) (M : Value) (w : World) (hb : Below w0.heap.size w0 w) (hA : Av w R 125 (tkc tot Ah nh ch Af nf cf d k M false)) (ho : w.ownsRow w0.heap.size 96 33 M l.length (mlc l))
    (hd : pDig fl d = some false) (h32 : All32 hs) (x : List UInt8) (hx : hs[k]? = some x) :
    Calls Tryd.prog 66 #[.pointer (some ⟨R, 0, none⟩), (.int .i64 0), .int .i64 (i : Int)] w (TVPost tot Ah nh ch Af nf cf R w0 l w (some ⟨x, [], d + 1, k + 1⟩)) := by
  have hz := zeros_32
  rw [show List.replicate 32 (0 : UInt8) = zs32 from rfl] at hz
  obtain ⟨W, hW⟩ : ∃ W, W = w.alloc (.cells (zs32.map bv).toArray 28) := ⟨_, rfl⟩
  obtain ⟨G, hG⟩ : ∃ G, G = w.heap.size := ⟨_, rfl⟩
  have bW : Below w.heap.size w W := by rw [hW]; exact (Below.refl _ _).alloc (Nat.le_refl _) _
  have aG : Av W G 28 (zs32.map bv) := by rw [hW, hG]; exact heap_alloc_new _ _
  have aR := hA.below bW
  have oM := own_below ho bW
  have hRG : R ≠ G := by have := hA.lt; omega
  have hGR : G ≠ R := Ne.symm hRG
  have hGw : w0.heap.size ≤ G := by rw [hG]; exact hb.size
  have b0 : Below w0.heap.size w0 W := hb.trans (bW.mono hb.size)
  have hzone : (zs32.map bv).all (·.oneCell') = true := rfl
  have oR := own_ne oM aR (by decide)
  have K0 : KeepT R w W := KeepT.ofBelow bW
  have hGw2 : w.heap.size ≤ G := by omega
  clear hA ho bW
  obtain ⟨hkl, hxe⟩ := List.getElem?_eq_some_iff.1 hx
  have x32 : x.length = 32 := h32 x (by rw [← hxe]; exact List.getElem_mem hkl)
  have hgd : hs.getD k [] = x := by rw [List.getD_eq_getElem?_getD, hx]; rfl
  have hkn : k < nh := by omega
  have tk : decide ((nh : Int) ≤ (k : Int)) = false := by simp; omega
  have n0 : 0 ≤ (k : Int) := by omega
  have n1 : (k : Int) < (nh : Int) := by omega
  obtain ⟨bb, off, e⟩ := hrh.someA (hcl_ne h32 (by omega))
  subst e
  have hrx := Lib.hid (fun w' (hE : Below w0.heap.size w0 w') => hgd ▸ (hrh.below hE).hash h32 k (by omega))
  have xv : (x.map bv).length = 32 := by rw [List.length_map, x32]
  have xone : (x.map bv).all (·.oneCell') = true := List.all_eq_true.2 (bv_one x)
  replace xone := Lib.hid xone
  replace xv := Lib.hid xv
  replace x32 := Lib.hid x32
  replace hxe := Lib.hid hxe
  replace hgd := Lib.hid hgd
  replace hx := Lib.hid hx
  have HN := TNext fl false tot (some ⟨bb, off, none⟩) nh ch Af nf cf d k R M false hnf hnf2 hd (by have := pDig_some hd; omega) W aR (hrf.below b0)
  have hdl := pDig_some hd
  replace hW := Lib.hid hW
  replace hG := Lib.hid hG
  replace hzone := Lib.hid hzone
  replace HN := Lib.hid HN
  replace hnh := Lib.hid hnh
  replace hnf := Lib.hid hnf
  replace oR := Lib.hid oR
  replace hd := Lib.hid hd
  go_enter Tryd.func66, Tryd.ntmps66
  go_upto_region 1 with fail
  rw [← hW.out, ← hG.out]
  go_upto_region 2 with (go_at_call 67; refine HN.out.mono ?_; rintro e w1 ⟨rfl, a1, f1⟩)
  have g1 := f1.av aG hGR
  have b1 : Below w0.heap.size w0 w1 := b0.trans (f1.below (fun j e => by rw [e]; exact hBR) b0.size)
  have o1 := own_fr oM f1 (fun j e h => oR.out (by rw [e, h]))
  have hw1g : G < w1.heap.size := g1.lt
  have c7 := a1.cell 7 _ rfl
  have K1 := K0.trans (KeepT.ofFr f1)
  clear HN aR aG oM b0 f1 K0
  go_upto_region 5 with fail
  refine wp_region_rel [] Ext (by kernel_rfl) (by kernel_rfl) (by kernel_rfl) Ext.refl Ext.trans (by intro p hp; cases hp) ?_
  refine relMove Ext.refl rfl rfl rfl rfl _ (.inl rfl) (by conv => lhs; whnf) (by simp only [List.set_cons_succ, List.set_cons_zero]; rfl) ?_
  refine relPure Ext.refl rfl rfl rfl rfl (fun w _ => by go_simp; first | done | rfl) (by simp only [List.set_cons_succ, List.set_cons_zero]; rfl) ?_
  refine relPure Ext.refl rfl rfl rfl rfl (fun w _ => by go_simp; first | done | rfl) (by simp only [List.set_cons_succ, List.set_cons_zero]; rfl) ?_
  refine relPure Ext.refl rfl rfl rfl rfl (c := .int .i64 (k : Int)) (fun w hw => by have := (a1.below hw.drew).cell 5 _ rfl; go_simp; first | done | rfl) (by simp only [List.set_cons_succ, List.set_cons_zero]; rfl) ?_
  refine relMove Ext.refl rfl rfl rfl rfl _ (.inl rfl) (by conv => lhs; whnf) (by simp only [List.set_cons_succ, List.set_cons_zero]; rfl) ?_
  refine relPure Ext.refl rfl rfl rfl rfl (fun w _ => by go_simp; first | done | rfl) (by simp only [List.set_cons_succ, List.set_cons_zero]; rfl) ?_
  refine relPure Ext.refl rfl rfl rfl rfl (fun w _ => by go_simp; first | done | rfl) (by simp only [List.set_cons_succ, List.set_cons_zero]; rfl) ?_
  refine relPure Ext.refl rfl rfl rfl rfl (fun w _ => by go_simp; first | done | rfl) (by simp only [List.set_cons_succ, List.set_cons_zero]; rfl) ?_
  refine relPure Ext.refl rfl rfl rfl rfl (c := .slice (some ⟨bb, off, none⟩) nh ch) (fun w hw => by have := (a1.below hw.drew).cell 1 _ rfl; go_simp; first | done | rfl) (by simp only [List.set_cons_succ, List.set_cons_zero]; rfl) ?_
  refine relPure Ext.refl rfl rfl rfl rfl (fun w _ => by go_simp; first | done | rfl) (by simp only [List.set_cons_succ, List.set_cons_zero]; rfl) ?_
  refine relPure Ext.refl rfl rfl rfl rfl (c := .bool false) (fun w hw => by go_simp; first | done | rfl) (by simp only [List.set_cons_succ, List.set_cons_zero]; rfl) ?_
  refine relEnd fun w2 hw2 => fill_end ?_
  have e2 := hw2.drew
  have a2 := a1.below e2
  have g2 := g1.below e2
  have o2 := own_below o1 e2
  have b2 := b1.trans (e2.mono b1.size)
  have hw2g : G < w2.heap.size := g2.lt
  have K2 := K1.trans (KeepT.ofBelow e2)
  clear c7 a1 g1 o1 b1
  go_upto_region 8 with fail
  have H1 : ∀ w', Ext w2.drew w' → Below w0.heap.size w0 w' := fun w' hE => b2.trans (hE.drew.mono b2.size)
  refine wp_region_relT 12 [(11, NewH w2.heap.size)] Ext (by kernel_rfl) (by kernel_rfl) (by kernel_rfl) (by kernel_rfl) (by kernel_rfl) Ext.refl Ext.trans (by intro p hp v w w' hR; simp only [List.mem_singleton] at hp; subst hp; exact NewH.mono hR) ?_
  refine relMove Ext.refl rfl rfl rfl rfl _ (.inl rfl) (by conv => lhs; whnf) (by simp only [List.set_cons_succ, List.set_cons_zero]; rfl) ?_
  refine relPure Ext.refl rfl rfl rfl rfl (fun w _ => by go_simp; first | done | rfl) (by simp only [List.set_cons_succ, List.set_cons_zero]; rfl) ?_
  refine relPure Ext.refl rfl rfl rfl rfl (fun w _ => by go_simp; first | done | rfl) (by simp only [List.set_cons_succ, List.set_cons_zero]; rfl) ?_
  refine relPure Ext.refl rfl rfl rfl rfl (fun w _ => by go_simp; first | done | rfl) (by simp only [List.set_cons_succ, List.set_cons_zero]; rfl) ?_
  refine relPure Ext.refl rfl rfl rfl rfl (c := .slice (some ⟨bb, off, none⟩) nh ch) (fun w hw => by have := (a2.below hw.drew).cell 1 _ rfl; go_simp; first | done | rfl) (by simp only [List.set_cons_succ, List.set_cons_zero]; rfl) ?_
  refine relMove Ext.refl rfl rfl rfl rfl _ (.inl rfl) (by conv => lhs; whnf) (by simp only [List.set_cons_succ, List.set_cons_zero]; rfl) ?_
  refine relPure Ext.refl rfl rfl rfl rfl (fun w _ => by go_simp; first | done | rfl) (by simp only [List.set_cons_succ, List.set_cons_zero]; rfl) ?_
  refine relPure Ext.refl rfl rfl rfl rfl (fun w _ => by go_simp; first | done | rfl) (by simp only [List.set_cons_succ, List.set_cons_zero]; rfl) ?_
  refine relPure Ext.refl rfl rfl rfl rfl (c := .int .i64 (k : Int)) (fun w hw => by have := (a2.below hw.drew).cell 5 _ rfl; go_simp; first | done | rfl) (by simp only [List.set_cons_succ, List.set_cons_zero]; rfl) ?_
  refine relPure Ext.refl rfl rfl rfl rfl (fun w _ => by go_simp; first | done | rfl) (by simp only [List.set_cons_succ, List.set_cons_zero]; rfl) ?_
  refine relPure Ext.refl rfl rfl rfl rfl (c := .agg (hcs x)) (fun w hw => exec_load_mid _ _ rfl bb (off + k * 32) rfl (x.map bv) _ (hrx.out w (H1 w hw)) Tryd.underlying28 rfl (by rw [xv.out]; kernel_rfl)) (by simp only [List.set_cons_succ, List.set_cons_zero]; rfl) ?_
  refine relWord _ rfl (fun w' hw => fill_none rfl (relOp_yes rfl ?_)) ?_
  · rw [exec_allocHR _ rfl]
    exact ⟨(Below.refl _ _).alloc (Nat.le_refl _) _, w'.heap.size, rfl, by have := hw.drew.size; omega, heap_alloc_new _ _⟩
  refine relEnd fun w3 hw3 => fill_take rfl rfl fun v hv => fill_end ?_
  simp only [List.set_cons_succ, List.set_cons_zero, List.drop_succ_cons, List.drop_zero]
  obtain ⟨X, rfl, hX, aX⟩ := hv
  have e3 := hw3.drew
  have a3 := a2.below e3
  have g3 := g2.below e3
  have o3 := own_below o2 e3
  have K3 := K2.trans (KeepT.ofBelow e3)
  have hXw2 : w.heap.size ≤ X := by omega
  have b3 := b2.trans (e3.mono b2.size)
  have hXG : X ≠ G := by omega
  have hXR : X ≠ R := by have := a2.lt; omega
  have hXw : w0.heap.size ≤ X := by have := b2.size; omega
  have oX : M.ownBlock ≠ some X := fun e => by have := (World.ownsRow.lt o2 X e).2; omega
  clear a2 g2 o2 b2 H1 hw3 e3
  go_upto_region 9 with ((with_reducible refine wpList_storeFA 28 b3 aX hXw (x.map bv) ?_ ?_ 32 xv.out ?_ ?_ ?_ ?_); rfl; rfl; kernel_rfl; rfl; exact xone.out; intro w4 aX4 b4 k4 z4)
  have a4 := a3.same (k4 R (Ne.symm hXR))
  have g4 := g3.same (k4 G (Ne.symm hXG))
  have o4 := own_fr o3 (FrS k4 z4 b3 b4) (fun j e h => oX (by rw [e, h]))
  have K4 := K3.store hXw2 k4 z4
  have K5 := K4.setR (i := 5) (.int .i64 ((k : Int) + 1))
  clear a3 g3 o3 b3 aX k4 z4 K3 K4 K2
  have c5 := a4.cell 5 _ rfl
  have f5 := frozen_of_row _ _ 5 _ _ a4
  have oG5 : M.ownBlock ≠ some G := own_ne o4 g4 (by decide)
  have a5 := a4.set 5 (.int .i64 ((k : Int) + 1))
  have g5 := g4.other ⟨R, 5, none⟩ (.int .i64 ((k : Int) + 1)) hGR
  have x5 := aX4.other ⟨R, 5, none⟩ (.int .i64 ((k : Int) + 1)) hXR
  have b5 := b4.setCell (p := ⟨R, 5, none⟩) hBR (.int .i64 ((k : Int) + 1))
  have o5 := own_fr o4 (Fr.setCell w4 ⟨R, 5, none⟩ (.int .i64 ((k : Int) + 1))) (fun j e h => oR.out (by rw [e, h]))
  go_wp2_with (first
    | ((with_reducible refine wpList_loadF 28 x5 ?_ _ 32 xv.out Tryd.underlying28 ?_ ?_ ?_); rfl; rfl; kernel_rfl)
    | ((with_reducible refine wpList_storeFA 28 b5 g5 hGw (x.map bv) ?_ ?_ 32 xv.out ?_ ?_ ?_ ?_); rfl; rfl; kernel_rfl; rfl; exact xone.out; intro w9 a9 b9 k9 z9))
  refine bodyPost_ret (results_cell_row rfl _ _ G _ _ (0, 0) _ rfl a9 Tryd.underlying28 rfl (by rw [List.size_toArray, xv.out]; kernel_rfl)) rfl ⟨b9, K5.store hGw2 k9 z9, rfl, M, a5.same (k9 R hRG), ?_⟩
  rw [List.length_nil, List.append_nil, Nat.add_zero]
  exact own_fr o5 (FrS k9 z9 b5 b9) (fun j e h => oG5 (by rw [e, h]))
set_option maxRecDepth 100000 in
set_option maxHeartbeats 4000000 in
theorem TV_leafS_no (fl : List UInt8) (hs : List (List UInt8)) (tot : Nat) (Ah : Option Addr) (nh ch : Nat) (Af : Option Addr) (nf cf R : Nat) (hnh : hs.length = nh) (hnf : fl.length = nf) (hnf2 : nf ≤ 10000) (_ : nh ≤ 10000) (w0 : World) (_ : Rd w0 Ah (hcl hs)) (hrf : Rd w0 Af (fl.map bv)) (hBR : w0.heap.size ≤ R)
    (i d k : Nat) (_ : i ≤ 5000) (hk : k ≤ nh) (l : List (Nat × List UInt8)) (M : Value) (w : World) (hb : Below w0.heap.size w0 w) (hA : Av w R 125 (tkc tot Ah nh ch Af nf cf d k M false)) (ho : w.ownsRow w0.heap.size 96 33 M l.length (mlc l))
    (hd : pDig fl d = some false) (h' : Nat) (hkn : nh ≤ k) :
    Calls Tryd.prog 66 #[.pointer (some ⟨R, 0, none⟩), (.int .i64 ((h' : Int) + 1)), .int .i64 (i : Int)] w (TVPost tot Ah nh ch Af nf cf R w0 l w none) := by
  have hz := zeros_32
  rw [show List.replicate 32 (0 : UInt8) = zs32 from rfl] at hz
  obtain ⟨W, hW⟩ : ∃ W, W = w.alloc (.cells (zs32.map bv).toArray 28) := ⟨_, rfl⟩
  obtain ⟨G, hG⟩ : ∃ G, G = w.heap.size := ⟨_, rfl⟩
  have bW : Below w.heap.size w W := by rw [hW]; exact (Below.refl _ _).alloc (Nat.le_refl _) _
  have aG : Av W G 28 (zs32.map bv) := by rw [hW, hG]; exact heap_alloc_new _ _
  have aR := hA.below bW
  have oM := own_below ho bW
  have hRG : R ≠ G := by have := hA.lt; omega
  have hGR : G ≠ R := Ne.symm hRG
  have hGw : w0.heap.size ≤ G := by rw [hG]; exact hb.size
  have b0 : Below w0.heap.size w0 W := hb.trans (bW.mono hb.size)
  have hzone : (zs32.map bv).all (·.oneCell') = true := rfl
  have oR := own_ne oM aR (by decide)
  have K0 : KeepT R w W := KeepT.ofBelow bW
  have hGw2 : w.heap.size ≤ G := by omega
  clear hA ho bW
  have th : ((h' : Int) + 1 == 0) = false := by simp; omega
  have tk : decide ((nh : Int) ≤ (k : Int)) = true := by simp; omega
  have HN := TNext fl false tot Ah nh ch Af nf cf d k R M false hnf hnf2 hd (by have := pDig_some hd; omega) W aR (hrf.below b0)
  have hdl := pDig_some hd
  replace hW := Lib.hid hW
  replace hG := Lib.hid hG
  replace hzone := Lib.hid hzone
  replace HN := Lib.hid HN
  replace hnh := Lib.hid hnh
  replace hnf := Lib.hid hnf
  replace oR := Lib.hid oR
  replace hd := Lib.hid hd
  go_enter Tryd.func66, Tryd.ntmps66
  go_upto_region 1 with fail
  rw [← hW.out, ← hG.out]
  go_upto_region 2 with (go_at_call 67; refine HN.out.mono ?_; rintro e w1 ⟨rfl, a1, f1⟩)
  have g1 := f1.av aG hGR
  have b1 : Below w0.heap.size w0 w1 := b0.trans (f1.below (fun j e => by rw [e]; exact hBR) b0.size)
  have o1 := own_fr oM f1 (fun j e h => oR.out (by rw [e, h]))
  have c7 := a1.cell 7 _ rfl
  have K1 := K0.trans (KeepT.ofFr f1)
  clear HN aR aG oM b0 f1 K0
  go_upto_region 5 with fail
  refine wp_region_rel [] Ext (by kernel_rfl) (by kernel_rfl) (by kernel_rfl) Ext.refl Ext.trans (by intro p hp; cases hp) ?_
  refine relMove Ext.refl rfl rfl rfl rfl _ (.inl rfl) (by conv => lhs; whnf) (by simp only [List.set_cons_succ, List.set_cons_zero]; rfl) ?_
  refine relPure Ext.refl rfl rfl rfl rfl (fun w _ => by go_simp; first | done | rfl) (by simp only [List.set_cons_succ, List.set_cons_zero]; rfl) ?_
  refine relPure Ext.refl rfl rfl rfl rfl (fun w _ => by go_simp; first | done | rfl) (by simp only [List.set_cons_succ, List.set_cons_zero]; rfl) ?_
  refine relPure Ext.refl rfl rfl rfl rfl (c := .int .i64 (k : Int)) (fun w hw => by have := (a1.below hw.drew).cell 5 _ rfl; go_simp; first | done | rfl) (by simp only [List.set_cons_succ, List.set_cons_zero]; rfl) ?_
  refine relMove Ext.refl rfl rfl rfl rfl _ (.inl rfl) (by conv => lhs; whnf) (by simp only [List.set_cons_succ, List.set_cons_zero]; rfl) ?_
  refine relPure Ext.refl rfl rfl rfl rfl (fun w _ => by go_simp; first | done | rfl) (by simp only [List.set_cons_succ, List.set_cons_zero]; rfl) ?_
  refine relPure Ext.refl rfl rfl rfl rfl (fun w _ => by go_simp; first | done | rfl) (by simp only [List.set_cons_succ, List.set_cons_zero]; rfl) ?_
  refine relPure Ext.refl rfl rfl rfl rfl (fun w _ => by go_simp; first | done | rfl) (by simp only [List.set_cons_succ, List.set_cons_zero]; rfl) ?_
  refine relPure Ext.refl rfl rfl rfl rfl (c := .slice Ah nh ch) (fun w hw => by have := (a1.below hw.drew).cell 1 _ rfl; go_simp; first | done | rfl) (by simp only [List.set_cons_succ, List.set_cons_zero]; rfl) ?_
  refine relPure Ext.refl rfl rfl rfl rfl (fun w _ => by go_simp; first | done | rfl) (by simp only [List.set_cons_succ, List.set_cons_zero]; rfl) ?_
  refine relPure Ext.refl rfl rfl rfl rfl (c := .bool true) (fun w hw => by go_simp; first | done | rfl) (by simp only [List.set_cons_succ, List.set_cons_zero]; rfl) ?_
  refine relEnd fun w2 hw2 => fill_end ?_
  have e2 := hw2.drew
  have a2 := a1.below e2
  have g2 := g1.below e2
  have b2 := b1.trans (e2.mono b1.size)
  have f7 := frozen_of_row _ _ 7 _ _ a2
  have d7 := a2.cell 7 _ rfl
  have a3 := a2.set 7 (.bool true)
  have g3 := g2.other ⟨R, 7, none⟩ (.bool true) hGR
  have b3 := b2.setCell (p := ⟨R, 7, none⟩) hBR (.bool true)
  have K3 := (K1.trans (KeepT.ofBelow e2)).setR (i := 7) (.bool true)
  replace a3 := Lib.hid a3
  clear c7
  go_wp2_with (first
    | ((with_reducible refine wpList_build (.agg (zs32.map bv).toArray) ?_ ?_); (go_simp; first | done | rfl))
    | ((with_reducible refine wpList_storeFA 28 b3 g3 hGw (zs32.map bv) ?_ ?_ 32 rfl ?_ ?_ ?_ ?_); rfl; rfl; kernel_rfl; rfl; exact hzone.out; intro w9 a9 b9 k9 z9))
  refine bodyPost_ret (results_cell_row rfl _ _ G _ _ (0, 0) _ rfl a9 Tryd.underlying28 rfl (by kernel_rfl)) rfl ⟨b9, K3.store hGw2 k9 z9, rfl, d + 1, k, M, by have := hdl; rw [hnf.out] at this; omega, hk, a3.out.same (k9 R hRG)⟩
set_option maxRecDepth 100000 in
set_option maxHeartbeats 4000000 in
theorem TV_leafS (fl : List UInt8) (hs : List (List UInt8)) (tot : Nat) (Ah : Option Addr) (nh ch : Nat) (Af : Option Addr) (nf cf R : Nat) (hnh : hs.length = nh) (hnf : fl.length = nf) (hnf2 : nf ≤ 10000) (hnh2 : nh ≤ 10000) (w0 : World) (hrh : Rd w0 Ah (hcl hs)) (hrf : Rd w0 Af (fl.map bv)) (hBR : w0.heap.size ≤ R)
    (i d k : Nat) (_ : i ≤ 5000) (_ : k ≤ nh) (l : List (Nat × List UInt8)) (M : Value) (w : World) (hb : Below w0.heap.size w0 w) (hA : Av w R 125 (tkc tot Ah nh ch Af nf cf d k M false)) (ho : w.ownsRow w0.heap.size 96 33 M l.length (mlc l))
    (hd : pDig fl d = some false) (h' : Nat) (h32 : All32 hs) (x : List UInt8) (hx : hs[k]? = some x) :
    Calls Tryd.prog 66 #[.pointer (some ⟨R, 0, none⟩), (.int .i64 ((h' : Int) + 1)), .int .i64 (i : Int)] w (TVPost tot Ah nh ch Af nf cf R w0 l w (some ⟨x, [], d + 1, k + 1⟩)) := by
  have hz := zeros_32
  rw [show List.replicate 32 (0 : UInt8) = zs32 from rfl] at hz
  obtain ⟨W, hW⟩ : ∃ W, W = w.alloc (.cells (zs32.map bv).toArray 28) := ⟨_, rfl⟩
  obtain ⟨G, hG⟩ : ∃ G, G = w.heap.size := ⟨_, rfl⟩
  have bW : Below w.heap.size w W := by rw [hW]; exact (Below.refl _ _).alloc (Nat.le_refl _) _
  have aG : Av W G 28 (zs32.map bv) := by rw [hW, hG]; exact heap_alloc_new _ _
  have aR := hA.below bW
  have oM := own_below ho bW
  have hRG : R ≠ G := by have := hA.lt; omega
  have hGR : G ≠ R := Ne.symm hRG
  have hGw : w0.heap.size ≤ G := by rw [hG]; exact hb.size
  have b0 : Below w0.heap.size w0 W := hb.trans (bW.mono hb.size)
  have hzone : (zs32.map bv).all (·.oneCell') = true := rfl
  have oR := own_ne oM aR (by decide)
  have K0 : KeepT R w W := KeepT.ofBelow bW
  have hGw2 : w.heap.size ≤ G := by omega
  clear hA ho bW
  have th : ((h' : Int) + 1 == 0) = false := by simp; omega
  obtain ⟨hkl, hxe⟩ := List.getElem?_eq_some_iff.1 hx
  have x32 : x.length = 32 := h32 x (by rw [← hxe]; exact List.getElem_mem hkl)
  have hgd : hs.getD k [] = x := by rw [List.getD_eq_getElem?_getD, hx]; rfl
  have hkn : k < nh := by omega
  have tk : decide ((nh : Int) ≤ (k : Int)) = false := by simp; omega
  have n0 : 0 ≤ (k : Int) := by omega
  have n1 : (k : Int) < (nh : Int) := by omega
  obtain ⟨bb, off, e⟩ := hrh.someA (hcl_ne h32 (by omega))
  subst e
  have hrx := Lib.hid (fun w' (hE : Below w0.heap.size w0 w') => hgd ▸ (hrh.below hE).hash h32 k (by omega))
  have xv : (x.map bv).length = 32 := by rw [List.length_map, x32]
  have xone : (x.map bv).all (·.oneCell') = true := List.all_eq_true.2 (bv_one x)
  replace xone := Lib.hid xone
  replace xv := Lib.hid xv
  replace x32 := Lib.hid x32
  replace hxe := Lib.hid hxe
  replace hgd := Lib.hid hgd
  replace hx := Lib.hid hx
  have HN := TNext fl false tot (some ⟨bb, off, none⟩) nh ch Af nf cf d k R M false hnf hnf2 hd (by have := pDig_some hd; omega) W aR (hrf.below b0)
  have hdl := pDig_some hd
  replace hW := Lib.hid hW
  replace hG := Lib.hid hG
  replace hzone := Lib.hid hzone
  replace HN := Lib.hid HN
  replace hnh := Lib.hid hnh
  replace hnf := Lib.hid hnf
  replace oR := Lib.hid oR
  replace hd := Lib.hid hd
  go_enter Tryd.func66, Tryd.ntmps66
  go_upto_region 1 with fail
  rw [← hW.out, ← hG.out]
  go_upto_region 2 with (go_at_call 67; refine HN.out.mono ?_; rintro e w1 ⟨rfl, a1, f1⟩)
  have g1 := f1.av aG hGR
  have b1 : Below w0.heap.size w0 w1 := b0.trans (f1.below (fun j e => by rw [e]; exact hBR) b0.size)
  have o1 := own_fr oM f1 (fun j e h => oR.out (by rw [e, h]))
  have hw1g : G < w1.heap.size := g1.lt
  have c7 := a1.cell 7 _ rfl
  have K1 := K0.trans (KeepT.ofFr f1)
  clear HN aR aG oM b0 f1 K0
  go_upto_region 5 with fail
  refine wp_region_rel [] Ext (by kernel_rfl) (by kernel_rfl) (by kernel_rfl) Ext.refl Ext.trans (by intro p hp; cases hp) ?_
  refine relMove Ext.refl rfl rfl rfl rfl _ (.inl rfl) (by conv => lhs; whnf) (by simp only [List.set_cons_succ, List.set_cons_zero]; rfl) ?_
  refine relPure Ext.refl rfl rfl rfl rfl (fun w _ => by go_simp; first | done | rfl) (by simp only [List.set_cons_succ, List.set_cons_zero]; rfl) ?_
  refine relPure Ext.refl rfl rfl rfl rfl (fun w _ => by go_simp; first | done | rfl) (by simp only [List.set_cons_succ, List.set_cons_zero]; rfl) ?_
  refine relPure Ext.refl rfl rfl rfl rfl (c := .int .i64 (k : Int)) (fun w hw => by have := (a1.below hw.drew).cell 5 _ rfl; go_simp; first | done | rfl) (by simp only [List.set_cons_succ, List.set_cons_zero]; rfl) ?_
  refine relMove Ext.refl rfl rfl rfl rfl _ (.inl rfl) (by conv => lhs; whnf) (by simp only [List.set_cons_succ, List.set_cons_zero]; rfl) ?_
  refine relPure Ext.refl rfl rfl rfl rfl (fun w _ => by go_simp; first | done | rfl) (by simp only [List.set_cons_succ, List.set_cons_zero]; rfl) ?_
  refine relPure Ext.refl rfl rfl rfl rfl (fun w _ => by go_simp; first | done | rfl) (by simp only [List.set_cons_succ, List.set_cons_zero]; rfl) ?_
  refine relPure Ext.refl rfl rfl rfl rfl (fun w _ => by go_simp; first | done | rfl) (by simp only [List.set_cons_succ, List.set_cons_zero]; rfl) ?_
  refine relPure Ext.refl rfl rfl rfl rfl (c := .slice (some ⟨bb, off, none⟩) nh ch) (fun w hw => by have := (a1.below hw.drew).cell 1 _ rfl; go_simp; first | done | rfl) (by simp only [List.set_cons_succ, List.set_cons_zero]; rfl) ?_
  refine relPure Ext.refl rfl rfl rfl rfl (fun w _ => by go_simp; first | done | rfl) (by simp only [List.set_cons_succ, List.set_cons_zero]; rfl) ?_
  refine relPure Ext.refl rfl rfl rfl rfl (c := .bool false) (fun w hw => by go_simp; first | done | rfl) (by simp only [List.set_cons_succ, List.set_cons_zero]; rfl) ?_
  refine relEnd fun w2 hw2 => fill_end ?_
  have e2 := hw2.drew
  have a2 := a1.below e2
  have g2 := g1.below e2
  have o2 := own_below o1 e2
  have b2 := b1.trans (e2.mono b1.size)
  have hw2g : G < w2.heap.size := g2.lt
  have K2 := K1.trans (KeepT.ofBelow e2)
  clear c7 a1 g1 o1 b1
  go_upto_region 8 with fail
  have H1 : ∀ w', Ext w2.drew w' → Below w0.heap.size w0 w' := fun w' hE => b2.trans (hE.drew.mono b2.size)
  refine wp_region_relT 12 [(11, NewH w2.heap.size)] Ext (by kernel_rfl) (by kernel_rfl) (by kernel_rfl) (by kernel_rfl) (by kernel_rfl) Ext.refl Ext.trans (by intro p hp v w w' hR; simp only [List.mem_singleton] at hp; subst hp; exact NewH.mono hR) ?_
  refine relMove Ext.refl rfl rfl rfl rfl _ (.inl rfl) (by conv => lhs; whnf) (by simp only [List.set_cons_succ, List.set_cons_zero]; rfl) ?_
  refine relPure Ext.refl rfl rfl rfl rfl (fun w _ => by go_simp; first | done | rfl) (by simp only [List.set_cons_succ, List.set_cons_zero]; rfl) ?_
  refine relPure Ext.refl rfl rfl rfl rfl (fun w _ => by go_simp; first | done | rfl) (by simp only [List.set_cons_succ, List.set_cons_zero]; rfl) ?_
  refine relPure Ext.refl rfl rfl rfl rfl (fun w _ => by go_simp; first | done | rfl) (by simp only [List.set_cons_succ, List.set_cons_zero]; rfl) ?_
  refine relPure Ext.refl rfl rfl rfl rfl (c := .slice (some ⟨bb, off, none⟩) nh ch) (fun w hw => by have := (a2.below hw.drew).cell 1 _ rfl; go_simp; first | done | rfl) (by simp only [List.set_cons_succ, List.set_cons_zero]; rfl) ?_
  refine relMove Ext.refl rfl rfl rfl rfl _ (.inl rfl) (by conv => lhs; whnf) (by simp only [List.set_cons_succ, List.set_cons_zero]; rfl) ?_
  refine relPure Ext.refl rfl rfl rfl rfl (fun w _ => by go_simp; first | done | rfl) (by simp only [List.set_cons_succ, List.set_cons_zero]; rfl) ?_
  refine relPure Ext.refl rfl rfl rfl rfl (fun w _ => by go_simp; first | done | rfl) (by simp only [List.set_cons_succ, List.set_cons_zero]; rfl) ?_
  refine relPure Ext.refl rfl rfl rfl rfl (c := .int .i64 (k : Int)) (fun w hw => by have := (a2.below hw.drew).cell 5 _ rfl; go_simp; first | done | rfl) (by simp only [List.set_cons_succ, List.set_cons_zero]; rfl) ?_
  refine relPure Ext.refl rfl rfl rfl rfl (fun w _ => by go_simp; first | done | rfl) (by simp only [List.set_cons_succ, List.set_cons_zero]; rfl) ?_
  refine relPure Ext.refl rfl rfl rfl rfl (c := .agg (hcs x)) (fun w hw => exec_load_mid _ _ rfl bb (off + k * 32) rfl (x.map bv) _ (hrx.out w (H1 w hw)) Tryd.underlying28 rfl (by rw [xv.out]; kernel_rfl)) (by simp only [List.set_cons_succ, List.set_cons_zero]; rfl) ?_
  refine relWord _ rfl (fun w' hw => fill_none rfl (relOp_yes rfl ?_)) ?_
  · rw [exec_allocHR _ rfl]
    exact ⟨(Below.refl _ _).alloc (Nat.le_refl _) _, w'.heap.size, rfl, by have := hw.drew.size; omega, heap_alloc_new _ _⟩
  refine relEnd fun w3 hw3 => fill_take rfl rfl fun v hv => fill_end ?_
  simp only [List.set_cons_succ, List.set_cons_zero, List.drop_succ_cons, List.drop_zero]
  obtain ⟨X, rfl, hX, aX⟩ := hv
  have e3 := hw3.drew
  have a3 := a2.below e3
  have g3 := g2.below e3
  have o3 := own_below o2 e3
  have K3 := K2.trans (KeepT.ofBelow e3)
  have hXw2 : w.heap.size ≤ X := by omega
  have b3 := b2.trans (e3.mono b2.size)
  have hXG : X ≠ G := by omega
  have hXR : X ≠ R := by have := a2.lt; omega
  have hXw : w0.heap.size ≤ X := by have := b2.size; omega
  have oX : M.ownBlock ≠ some X := fun e => by have := (World.ownsRow.lt o2 X e).2; omega
  clear a2 g2 o2 b2 H1 hw3 e3
  go_upto_region 9 with ((with_reducible refine wpList_storeFA 28 b3 aX hXw (x.map bv) ?_ ?_ 32 xv.out ?_ ?_ ?_ ?_); rfl; rfl; kernel_rfl; rfl; exact xone.out; intro w4 aX4 b4 k4 z4)
  have a4 := a3.same (k4 R (Ne.symm hXR))
  have g4 := g3.same (k4 G (Ne.symm hXG))
  have o4 := own_fr o3 (FrS k4 z4 b3 b4) (fun j e h => oX (by rw [e, h]))
  have K4 := K3.store hXw2 k4 z4
  have K5 := K4.setR (i := 5) (.int .i64 ((k : Int) + 1))
  clear a3 g3 o3 b3 aX k4 z4 K3 K4 K2
  have c5 := a4.cell 5 _ rfl
  have f5 := frozen_of_row _ _ 5 _ _ a4
  have oG5 : M.ownBlock ≠ some G := own_ne o4 g4 (by decide)
  have a5 := a4.set 5 (.int .i64 ((k : Int) + 1))
  have g5 := g4.other ⟨R, 5, none⟩ (.int .i64 ((k : Int) + 1)) hGR
  have x5 := aX4.other ⟨R, 5, none⟩ (.int .i64 ((k : Int) + 1)) hXR
  have b5 := b4.setCell (p := ⟨R, 5, none⟩) hBR (.int .i64 ((k : Int) + 1))
  have o5 := own_fr o4 (Fr.setCell w4 ⟨R, 5, none⟩ (.int .i64 ((k : Int) + 1))) (fun j e h => oR.out (by rw [e, h]))
  go_wp2_with (first
    | ((with_reducible refine wpList_loadF 28 x5 ?_ _ 32 xv.out Tryd.underlying28 ?_ ?_ ?_); rfl; rfl; kernel_rfl)
    | ((with_reducible refine wpList_storeFA 28 b5 g5 hGw (x.map bv) ?_ ?_ 32 xv.out ?_ ?_ ?_ ?_); rfl; rfl; kernel_rfl; rfl; exact xone.out; intro w9 a9 b9 k9 z9))
  refine bodyPost_ret (results_cell_row rfl _ _ G _ _ (0, 0) _ rfl a9 Tryd.underlying28 rfl (by rw [List.size_toArray, xv.out]; kernel_rfl)) rfl ⟨b9, K5.store hGw2 k9 z9, rfl, M, a5.same (k9 R hRG), ?_⟩
  rw [List.length_nil, List.append_nil, Nat.add_zero]
  exact own_fr o5 (FrS k9 z9 b5 b9) (fun j e h => oG5 (by rw [e, h]))
set_option maxRecDepth 100000 in
set_option maxHeartbeats 4000000 in
theorem TV_match_no (fl : List UInt8) (hs : List (List UInt8)) (tot : Nat) (Ah : Option Addr) (nh ch : Nat) (Af : Option Addr) (nf cf R : Nat) (hnh : hs.length = nh) (hnf : fl.length = nf) (hnf2 : nf ≤ 10000) (_ : nh ≤ 10000) (w0 : World) (_ : Rd w0 Ah (hcl hs)) (hrf : Rd w0 Af (fl.map bv)) (hBR : w0.heap.size ≤ R)
    (i d k : Nat) (_ : i ≤ 5000) (hk : k ≤ nh) (l : List (Nat × List UInt8)) (M : Value) (w : World) (hb : Below w0.heap.size w0 w) (hA : Av w R 125 (tkc tot Ah nh ch Af nf cf d k M false)) (ho : w.ownsRow w0.heap.size 96 33 M l.length (mlc l))
    (hd : pDig fl d = some true) (hkn : nh ≤ k) :
    Calls Tryd.prog 66 #[.pointer (some ⟨R, 0, none⟩), (.int .i64 0), .int .i64 (i : Int)] w (TVPost tot Ah nh ch Af nf cf R w0 l w none) := by
  have hz := zeros_32
  rw [show List.replicate 32 (0 : UInt8) = zs32 from rfl] at hz
  obtain ⟨W, hW⟩ : ∃ W, W = w.alloc (.cells (zs32.map bv).toArray 28) := ⟨_, rfl⟩
  obtain ⟨G, hG⟩ : ∃ G, G = w.heap.size := ⟨_, rfl⟩
  have bW : Below w.heap.size w W := by rw [hW]; exact (Below.refl _ _).alloc (Nat.le_refl _) _
  have aG : Av W G 28 (zs32.map bv) := by rw [hW, hG]; exact heap_alloc_new _ _
  have aR := hA.below bW
  have oM := own_below ho bW
  have hRG : R ≠ G := by have := hA.lt; omega
  have hGR : G ≠ R := Ne.symm hRG
  have hGw : w0.heap.size ≤ G := by rw [hG]; exact hb.size
  have b0 : Below w0.heap.size w0 W := hb.trans (bW.mono hb.size)
  have hzone : (zs32.map bv).all (·.oneCell') = true := rfl
  have oR := own_ne oM aR (by decide)
  have K0 : KeepT R w W := KeepT.ofBelow bW
  have hGw2 : w.heap.size ≤ G := by omega
  clear hA ho bW
  have tk : decide ((nh : Int) ≤ (k : Int)) = true := by simp; omega
  have HN := TNext fl true tot Ah nh ch Af nf cf d k R M false hnf hnf2 hd (by have := pDig_some hd; omega) W aR (hrf.below b0)
  have hdl := pDig_some hd
  replace hW := Lib.hid hW
  replace hG := Lib.hid hG
  replace hzone := Lib.hid hzone
  replace HN := Lib.hid HN
  replace hnh := Lib.hid hnh
  replace hnf := Lib.hid hnf
  replace oR := Lib.hid oR
  replace hd := Lib.hid hd
  go_enter Tryd.func66, Tryd.ntmps66
  go_upto_region 1 with fail
  rw [← hW.out, ← hG.out]
  go_upto_region 2 with (go_at_call 67; refine HN.out.mono ?_; rintro e w1 ⟨rfl, a1, f1⟩)
  have g1 := f1.av aG hGR
  have b1 : Below w0.heap.size w0 w1 := b0.trans (f1.below (fun j e => by rw [e]; exact hBR) b0.size)
  have o1 := own_fr oM f1 (fun j e h => oR.out (by rw [e, h]))
  have c7 := a1.cell 7 _ rfl
  have K1 := K0.trans (KeepT.ofFr f1)
  clear HN aR aG oM b0 f1 K0
  go_upto_region 5 with fail
  refine wp_region_rel [] Ext (by kernel_rfl) (by kernel_rfl) (by kernel_rfl) Ext.refl Ext.trans (by intro p hp; cases hp) ?_
  refine relMove Ext.refl rfl rfl rfl rfl _ (.inl rfl) (by conv => lhs; whnf) (by simp only [List.set_cons_succ, List.set_cons_zero]; rfl) ?_
  refine relPure Ext.refl rfl rfl rfl rfl (fun w _ => by go_simp; first | done | rfl) (by simp only [List.set_cons_succ, List.set_cons_zero]; rfl) ?_
  refine relPure Ext.refl rfl rfl rfl rfl (fun w _ => by go_simp; first | done | rfl) (by simp only [List.set_cons_succ, List.set_cons_zero]; rfl) ?_
  refine relPure Ext.refl rfl rfl rfl rfl (c := .int .i64 (k : Int)) (fun w hw => by have := (a1.below hw.drew).cell 5 _ rfl; go_simp; first | done | rfl) (by simp only [List.set_cons_succ, List.set_cons_zero]; rfl) ?_
  refine relMove Ext.refl rfl rfl rfl rfl _ (.inl rfl) (by conv => lhs; whnf) (by simp only [List.set_cons_succ, List.set_cons_zero]; rfl) ?_
  refine relPure Ext.refl rfl rfl rfl rfl (fun w _ => by go_simp; first | done | rfl) (by simp only [List.set_cons_succ, List.set_cons_zero]; rfl) ?_
  refine relPure Ext.refl rfl rfl rfl rfl (fun w _ => by go_simp; first | done | rfl) (by simp only [List.set_cons_succ, List.set_cons_zero]; rfl) ?_
  refine relPure Ext.refl rfl rfl rfl rfl (fun w _ => by go_simp; first | done | rfl) (by simp only [List.set_cons_succ, List.set_cons_zero]; rfl) ?_
  refine relPure Ext.refl rfl rfl rfl rfl (c := .slice Ah nh ch) (fun w hw => by have := (a1.below hw.drew).cell 1 _ rfl; go_simp; first | done | rfl) (by simp only [List.set_cons_succ, List.set_cons_zero]; rfl) ?_
  refine relPure Ext.refl rfl rfl rfl rfl (fun w _ => by go_simp; first | done | rfl) (by simp only [List.set_cons_succ, List.set_cons_zero]; rfl) ?_
  refine relPure Ext.refl rfl rfl rfl rfl (c := .bool true) (fun w hw => by go_simp; first | done | rfl) (by simp only [List.set_cons_succ, List.set_cons_zero]; rfl) ?_
  refine relEnd fun w2 hw2 => fill_end ?_
  have e2 := hw2.drew
  have a2 := a1.below e2
  have g2 := g1.below e2
  have b2 := b1.trans (e2.mono b1.size)
  have f7 := frozen_of_row _ _ 7 _ _ a2
  have d7 := a2.cell 7 _ rfl
  have a3 := a2.set 7 (.bool true)
  have g3 := g2.other ⟨R, 7, none⟩ (.bool true) hGR
  have b3 := b2.setCell (p := ⟨R, 7, none⟩) hBR (.bool true)
  have K3 := (K1.trans (KeepT.ofBelow e2)).setR (i := 7) (.bool true)
  replace a3 := Lib.hid a3
  clear c7
  go_wp2_with (first
    | ((with_reducible refine wpList_build (.agg (zs32.map bv).toArray) ?_ ?_); (go_simp; first | done | rfl))
    | ((with_reducible refine wpList_storeFA 28 b3 g3 hGw (zs32.map bv) ?_ ?_ 32 rfl ?_ ?_ ?_ ?_); rfl; rfl; kernel_rfl; rfl; exact hzone.out; intro w9 a9 b9 k9 z9))
  refine bodyPost_ret (results_cell_row rfl _ _ G _ _ (0, 0) _ rfl a9 Tryd.underlying28 rfl (by kernel_rfl)) rfl ⟨b9, K3.store hGw2 k9 z9, rfl, d + 1, k, M, by have := hdl; rw [hnf.out] at this; omega, hk, a3.out.same (k9 R hRG)⟩
set_option maxRecDepth 100000 in
set_option maxHeartbeats 4000000 in
theorem TV_match (fl : List UInt8) (hs : List (List UInt8)) (tot : Nat) (Ah : Option Addr) (nh ch : Nat) (Af : Option Addr) (nf cf R : Nat) (hnh : hs.length = nh) (hnf : fl.length = nf) (hnf2 : nf ≤ 10000) (hnh2 : nh ≤ 10000) (w0 : World) (hrh : Rd w0 Ah (hcl hs)) (hrf : Rd w0 Af (fl.map bv)) (hBR : w0.heap.size ≤ R)
    (i d k : Nat) (_ : i ≤ 5000) (_ : k ≤ nh) (l : List (Nat × List UInt8)) (M : Value) (w : World) (hb : Below w0.heap.size w0 w) (hA : Av w R 125 (tkc tot Ah nh ch Af nf cf d k M false)) (ho : w.ownsRow w0.heap.size 96 33 M l.length (mlc l))
    (hd : pDig fl d = some true) (hlk : l.length ≤ k) (h32 : All32 hs) (x : List UInt8) (hx : hs[k]? = some x) :
    Calls Tryd.prog 66 #[.pointer (some ⟨R, 0, none⟩), (.int .i64 0), .int .i64 (i : Int)] w (TVPost tot Ah nh ch Af nf cf R w0 l w (some ⟨x, [(i, x)], d + 1, k + 1⟩)) := by
  have hz := zeros_32
  rw [show List.replicate 32 (0 : UInt8) = zs32 from rfl] at hz
  obtain ⟨W, hW⟩ : ∃ W, W = w.alloc (.cells (zs32.map bv).toArray 28) := ⟨_, rfl⟩
  obtain ⟨G, hG⟩ : ∃ G, G = w.heap.size := ⟨_, rfl⟩
  have bW : Below w.heap.size w W := by rw [hW]; exact (Below.refl _ _).alloc (Nat.le_refl _) _
  have aG : Av W G 28 (zs32.map bv) := by rw [hW, hG]; exact heap_alloc_new _ _
  have aR := hA.below bW
  have oM := own_below ho bW
  have hRG : R ≠ G := by have := hA.lt; omega
  have hGR : G ≠ R := Ne.symm hRG
  have hGw : w0.heap.size ≤ G := by rw [hG]; exact hb.size
  have b0 : Below w0.heap.size w0 W := hb.trans (bW.mono hb.size)
  have hzone : (zs32.map bv).all (·.oneCell') = true := rfl
  have oR := own_ne oM aR (by decide)
  have K0 : KeepT R w W := KeepT.ofBelow bW
  have hGw2 : w.heap.size ≤ G := by omega
  clear hA ho bW
  obtain ⟨hkl, hxe⟩ := List.getElem?_eq_some_iff.1 hx
  have x32 : x.length = 32 := h32 x (by rw [← hxe]; exact List.getElem_mem hkl)
  have hgd : hs.getD k [] = x := by rw [List.getD_eq_getElem?_getD, hx]; rfl
  have hkn : k < nh := by omega
  have tk : decide ((nh : Int) ≤ (k : Int)) = false := by simp; omega
  have n0 : 0 ≤ (k : Int) := by omega
  have n1 : (k : Int) < (nh : Int) := by omega
  obtain ⟨bb, off, e⟩ := hrh.someA (hcl_ne h32 (by omega))
  subst e
  have hrx := Lib.hid (fun w' (hE : Below w0.heap.size w0 w') => hgd ▸ (hrh.below hE).hash h32 k (by omega))
  have xv : (x.map bv).length = 32 := by rw [List.length_map, x32]
  have xone : (x.map bv).all (·.oneCell') = true := List.all_eq_true.2 (bv_one x)
  replace xone := Lib.hid xone
  replace xv := Lib.hid xv
  replace x32 := Lib.hid x32
  replace hxe := Lib.hid hxe
  replace hgd := Lib.hid hgd
  replace hx := Lib.hid hx
  have HN := TNext fl true tot (some ⟨bb, off, none⟩) nh ch Af nf cf d k R M false hnf hnf2 hd (by have := pDig_some hd; omega) W aR (hrf.below b0)
  have hdl := pDig_some hd
  replace hW := Lib.hid hW
  replace hG := Lib.hid hG
  replace hzone := Lib.hid hzone
  replace HN := Lib.hid HN
  replace hnh := Lib.hid hnh
  replace hnf := Lib.hid hnf
  replace oR := Lib.hid oR
  replace hd := Lib.hid hd
  go_enter Tryd.func66, Tryd.ntmps66
  go_upto_region 1 with fail
  rw [← hW.out, ← hG.out]
  go_upto_region 2 with (go_at_call 67; refine HN.out.mono ?_; rintro e w1 ⟨rfl, a1, f1⟩)
  have g1 := f1.av aG hGR
  have b1 : Below w0.heap.size w0 w1 := b0.trans (f1.below (fun j e => by rw [e]; exact hBR) b0.size)
  have o1 := own_fr oM f1 (fun j e h => oR.out (by rw [e, h]))
  have hw1g : G < w1.heap.size := g1.lt
  have c7 := a1.cell 7 _ rfl
  have K1 := K0.trans (KeepT.ofFr f1)
  clear HN aR aG oM b0 f1 K0
  go_upto_region 5 with fail
  refine wp_region_rel [] Ext (by kernel_rfl) (by kernel_rfl) (by kernel_rfl) Ext.refl Ext.trans (by intro p hp; cases hp) ?_
  refine relMove Ext.refl rfl rfl rfl rfl _ (.inl rfl) (by conv => lhs; whnf) (by simp only [List.set_cons_succ, List.set_cons_zero]; rfl) ?_
  refine relPure Ext.refl rfl rfl rfl rfl (fun w _ => by go_simp; first | done | rfl) (by simp only [List.set_cons_succ, List.set_cons_zero]; rfl) ?_
  refine relPure Ext.refl rfl rfl rfl rfl (fun w _ => by go_simp; first | done | rfl) (by simp only [List.set_cons_succ, List.set_cons_zero]; rfl) ?_
  refine relPure Ext.refl rfl rfl rfl rfl (c := .int .i64 (k : Int)) (fun w hw => by have := (a1.below hw.drew).cell 5 _ rfl; go_simp; first | done | rfl) (by simp only [List.set_cons_succ, List.set_cons_zero]; rfl) ?_
  refine relMove Ext.refl rfl rfl rfl rfl _ (.inl rfl) (by conv => lhs; whnf) (by simp only [List.set_cons_succ, List.set_cons_zero]; rfl) ?_
  refine relPure Ext.refl rfl rfl rfl rfl (fun w _ => by go_simp; first | done | rfl) (by simp only [List.set_cons_succ, List.set_cons_zero]; rfl) ?_
  refine relPure Ext.refl rfl rfl rfl rfl (fun w _ => by go_simp; first | done | rfl) (by simp only [List.set_cons_succ, List.set_cons_zero]; rfl) ?_
  refine relPure Ext.refl rfl rfl rfl rfl (fun w _ => by go_simp; first | done | rfl) (by simp only [List.set_cons_succ, List.set_cons_zero]; rfl) ?_
  refine relPure Ext.refl rfl rfl rfl rfl (c := .slice (some ⟨bb, off, none⟩) nh ch) (fun w hw => by have := (a1.below hw.drew).cell 1 _ rfl; go_simp; first | done | rfl) (by simp only [List.set_cons_succ, List.set_cons_zero]; rfl) ?_
  refine relPure Ext.refl rfl rfl rfl rfl (fun w _ => by go_simp; first | done | rfl) (by simp only [List.set_cons_succ, List.set_cons_zero]; rfl) ?_
  refine relPure Ext.refl rfl rfl rfl rfl (c := .bool false) (fun w hw => by go_simp; first | done | rfl) (by simp only [List.set_cons_succ, List.set_cons_zero]; rfl) ?_
  refine relEnd fun w2 hw2 => fill_end ?_
  have e2 := hw2.drew
  have a2 := a1.below e2
  have g2 := g1.below e2
  have o2 := own_below o1 e2
  have b2 := b1.trans (e2.mono b1.size)
  have hw2g : G < w2.heap.size := g2.lt
  have K2 := K1.trans (KeepT.ofBelow e2)
  clear c7 a1 g1 o1 b1
  go_upto_region 8 with fail
  have H1 : ∀ w', Ext w2.drew w' → Below w0.heap.size w0 w' := fun w' hE => b2.trans (hE.drew.mono b2.size)
  refine wp_region_relT 12 [(11, NewH w2.heap.size)] Ext (by kernel_rfl) (by kernel_rfl) (by kernel_rfl) (by kernel_rfl) (by kernel_rfl) Ext.refl Ext.trans (by intro p hp v w w' hR; simp only [List.mem_singleton] at hp; subst hp; exact NewH.mono hR) ?_
  refine relMove Ext.refl rfl rfl rfl rfl _ (.inl rfl) (by conv => lhs; whnf) (by simp only [List.set_cons_succ, List.set_cons_zero]; rfl) ?_
  refine relPure Ext.refl rfl rfl rfl rfl (fun w _ => by go_simp; first | done | rfl) (by simp only [List.set_cons_succ, List.set_cons_zero]; rfl) ?_
  refine relPure Ext.refl rfl rfl rfl rfl (fun w _ => by go_simp; first | done | rfl) (by simp only [List.set_cons_succ, List.set_cons_zero]; rfl) ?_
  refine relPure Ext.refl rfl rfl rfl rfl (fun w _ => by go_simp; first | done | rfl) (by simp only [List.set_cons_succ, List.set_cons_zero]; rfl) ?_
  refine relPure Ext.refl rfl rfl rfl rfl (c := .slice (some ⟨bb, off, none⟩) nh ch) (fun w hw => by have := (a2.below hw.drew).cell 1 _ rfl; go_simp; first | done | rfl) (by simp only [List.set_cons_succ, List.set_cons_zero]; rfl) ?_
  refine relMove Ext.refl rfl rfl rfl rfl _ (.inl rfl) (by conv => lhs; whnf) (by simp only [List.set_cons_succ, List.set_cons_zero]; rfl) ?_
  refine relPure Ext.refl rfl rfl rfl rfl (fun w _ => by go_simp; first | done | rfl) (by simp only [List.set_cons_succ, List.set_cons_zero]; rfl) ?_
  refine relPure Ext.refl rfl rfl rfl rfl (fun w _ => by go_simp; first | done | rfl) (by simp only [List.set_cons_succ, List.set_cons_zero]; rfl) ?_
  refine relPure Ext.refl rfl rfl rfl rfl (c := .int .i64 (k : Int)) (fun w hw => by have := (a2.below hw.drew).cell 5 _ rfl; go_simp; first | done | rfl) (by simp only [List.set_cons_succ, List.set_cons_zero]; rfl) ?_
  refine relPure Ext.refl rfl rfl rfl rfl (fun w _ => by go_simp; first | done | rfl) (by simp only [List.set_cons_succ, List.set_cons_zero]; rfl) ?_
  refine relPure Ext.refl rfl rfl rfl rfl (c := .agg (hcs x)) (fun w hw => exec_load_mid _ _ rfl bb (off + k * 32) rfl (x.map bv) _ (hrx.out w (H1 w hw)) Tryd.underlying28 rfl (by rw [xv.out]; kernel_rfl)) (by simp only [List.set_cons_succ, List.set_cons_zero]; rfl) ?_
  refine relWord _ rfl (fun w' hw => fill_none rfl (relOp_yes rfl ?_)) ?_
  · rw [exec_allocHR _ rfl]
    exact ⟨(Below.refl _ _).alloc (Nat.le_refl _) _, w'.heap.size, rfl, by have := hw.drew.size; omega, heap_alloc_new _ _⟩
  refine relEnd fun w3 hw3 => fill_take rfl rfl fun v hv => fill_end ?_
  simp only [List.set_cons_succ, List.set_cons_zero, List.drop_succ_cons, List.drop_zero]
  obtain ⟨X, rfl, hX, aX⟩ := hv
  have e3 := hw3.drew
  have a3 := a2.below e3
  have g3 := g2.below e3
  have o3 := own_below o2 e3
  have K3 := K2.trans (KeepT.ofBelow e3)
  have hXw2 : w.heap.size ≤ X := by omega
  have b3 := b2.trans (e3.mono b2.size)
  have hXG : X ≠ G := by omega
  have hXR : X ≠ R := by have := a2.lt; omega
  have hXw : w0.heap.size ≤ X := by have := b2.size; omega
  have oX : M.ownBlock ≠ some X := fun e => by have := (World.ownsRow.lt o2 X e).2; omega
  clear a2 g2 o2 b2 H1 hw3 e3
  go_upto_region 9 with ((with_reducible refine wpList_storeFA 28 b3 aX hXw (x.map bv) ?_ ?_ 32 xv.out ?_ ?_ ?_ ?_); rfl; rfl; kernel_rfl; rfl; exact xone.out; intro w4 aX4 b4 k4 z4)
  have a4 := a3.same (k4 R (Ne.symm hXR))
  have g4 := g3.same (k4 G (Ne.symm hXG))
  have o4 := own_fr o3 (FrS k4 z4 b3 b4) (fun j e h => oX (by rw [e, h]))
  have K4 := K3.store hXw2 k4 z4
  have K5 := K4.setR (i := 5) (.int .i64 ((k : Int) + 1))
  clear a3 g3 o3 b3 aX k4 z4 K3 K4 K2
  have c5 := a4.cell 5 _ rfl
  have f5 := frozen_of_row _ _ 5 _ _ a4
  have oG5 : M.ownBlock ≠ some G := own_ne o4 g4 (by decide)
  have a5 := a4.set 5 (.int .i64 ((k : Int) + 1))
  have g5 := g4.other ⟨R, 5, none⟩ (.int .i64 ((k : Int) + 1)) hGR
  have x5 := aX4.other ⟨R, 5, none⟩ (.int .i64 ((k : Int) + 1)) hXR
  have b5 := b4.setCell (p := ⟨R, 5, none⟩) hBR (.int .i64 ((k : Int) + 1))
  have o5 := own_fr o4 (Fr.setCell w4 ⟨R, 5, none⟩ (.int .i64 ((k : Int) + 1))) (fun j e h => oR.out (by rw [e, h]))
  go_upto_region 11 with fail
  generalize w4.setCell ⟨R, 5, none⟩ (.int .i64 ((k : Int) + 1)) = w5 at *
  clear c5 f5 a4 g4 aX4 b4 o4
  obtain ⟨nl, hnl⟩ : ∃ nl, nl = l.length := ⟨_, rfl⟩
  have hnl5 : nl ≤ 10000 := by have := hlk; omega
  rw [← hnl] at o5
  replace hnl := Lib.hid hnl
  have hl33 : (mtc (i, x)).length = 33 := mtc_len x32.out
  have one33 := mtc_one (i, x)
  have hw5 := b5.size
  replace hl33 := Lib.hid hl33
  replace one33 := Lib.hid one33
  refine wp_region_relM 9 9 [(8, fun v w' => ∃ g, v = .slice (some ⟨g, 0, none⟩) 1 1 ∧ w5.heap.size ≤ g ∧ Av w' g 96 (mtc (i, x)))] Ext (by kernel_rfl) (by simp only [waitOn, List.push_toArray, List.cons_append, List.nil_append]; rfl) rfl (by decide) (by kernel_rfl) (by kernel_rfl) (fun _ _ _ h => h) (by kernel_rfl) (by kernel_rfl) (by kernel_rfl) (by kernel_rfl) Ext.refl Ext.trans (by
      intro p hp v w w' hR
      simp only [List.mem_singleton] at hp
      subst hp
      rintro ⟨g, e, h1, h2⟩
      exact ⟨g, e, h1, h2.below hR⟩) ?_
  refine relMove Ext.refl rfl rfl rfl rfl _ (.inl rfl) (by conv => lhs; whnf) (by simp only [List.set_cons_succ, List.set_cons_zero]; rfl) ?_
  refine relMove Ext.refl rfl rfl rfl rfl _ (.inl rfl) (by conv => lhs; whnf) (by simp only [List.set_cons_succ, List.set_cons_zero]; rfl) ?_
  refine relPure Ext.refl rfl rfl rfl rfl (fun w _ => by go_simp; first | done | rfl) (by simp only [List.set_cons_succ, List.set_cons_zero]; rfl) ?_
  refine relPure Ext.refl rfl rfl rfl rfl (fun w _ => by go_simp; first | done | rfl) (by simp only [List.set_cons_succ, List.set_cons_zero]; rfl) ?_
  refine relPure Ext.refl rfl rfl rfl rfl (c := M) (fun w hw => by have := (a5.below hw.drew).cell 6 _ rfl; go_simp; first | done | rfl) (by simp only [List.set_cons_succ, List.set_cons_zero]; rfl) ?_
  refine relMove Ext.refl rfl rfl rfl rfl _ (.inl rfl) (by conv => lhs; whnf) (by simp only [List.set_cons_succ, List.set_cons_zero]; rfl) ?_
  refine relPure Ext.refl rfl rfl rfl rfl (c := .agg (hcs x)) (fun w hw => exec_loadAv (x5.below hw.drew) _ _ rfl rfl _ 32 xv.out Tryd.underlying28 rfl (by kernel_rfl)) (by simp only [List.set_cons_succ, List.set_cons_zero]; rfl) ?_
  refine relPure Ext.refl rfl rfl rfl rfl (c := .agg (mtc (i, x)).toArray) (fun w hw => exec_build_mtR i x x32.out rfl rfl rfl) (by simp only [List.set_cons_succ, List.set_cons_zero]; rfl) ?_
  refine relWord _ rfl (fun w hw => fill_none rfl (relOp_yes rfl ?_)) ?_
  · rw [exec_build1 Tryd.underlying93 infoMtR zeroMtR (by decide) (by decide) _ (mtc (i, x)) hl33.out _ rfl rfl]
    exact ⟨(Below.refl _ _).alloc (Nat.le_refl _) _, _, rfl, hw.drew.size, heap_alloc_new _ _⟩
  refine relEnd fun w6 hw6 => fill_take rfl rfl fun v hv => fill_end ?_
  obtain ⟨q, rfl, hq, aq⟩ := hv
  simp only [List.set_cons_succ, List.set_cons_zero, List.drop_succ_cons, List.drop_zero]
  have e6 := hw6.drew
  have a6 := a5.below e6
  have g6 := g5.below e6
  have x6 := x5.below e6
  have o6 := own_below o5 e6
  have b6 := b5.trans (e6.mono b5.size)
  have hbs := b6.size
  have hle : (nl + 1) * 40 ≤ 140737488355328 := by omega
  go_wp2_with (first
    | (at_builtin; refine wpList_appE Tryd.underlying93 infoMtR zeroMtR (by decide) o6 hbs (mtc (i, x)) 1 1 aq.rd (by rw [hl33.out]) one33.out (by omega) hle rfl (.tmp 66) (.tmp 70) rfl rfl rfl ?_; intro M2 w7 o7 gr7 ob7; obtain ⟨Aq, cq, rfl, hcq, _⟩ := own_form o7; have T7 := TOnly.ofGrown o6 gr7; have a7 := T7.av a6 (by decide); have g7 := T7.av g6 (by decide); have x7 := T7.av x6 (by decide); have b7 := T7.below b6 (Nat.le_refl _) hbs; have f6 := frozen_of_row _ _ 6 _ _ a7; have c6 := a7.cell 6 _ rfl; have g8 := g7.other ⟨R, 6, none⟩ (.slice Aq (nl + 1) cq) hGR; have x8 := x7.other ⟨R, 6, none⟩ (.slice Aq (nl + 1) cq) hXR; have b8 := b7.setCell (p := ⟨R, 6, none⟩) hBR (.slice Aq (nl + 1) cq))
    | ((with_reducible refine wpList_loadF 28 x8 ?_ _ 32 xv.out Tryd.underlying28 ?_ ?_ ?_); rfl; rfl; kernel_rfl)
    | ((with_reducible refine wpList_storeFA 28 b8 g8 hGw (x.map bv) ?_ ?_ 32 xv.out ?_ ?_ ?_ ?_); rfl; rfl; kernel_rfl; rfl; exact xone.out; intro w9 a9 b9 k9 z9))
  have a8 := a7.set 6 (.slice Aq (nl + 1) cq)
  have o8 := own_fr o7 (Fr.setCell w7 ⟨R, 6, none⟩ (.slice Aq (nl + 1) cq)) (fun j e h => own_ne o7 a7 (by decide) (by rw [e, h]))
  have oG8 := own_ne o8 g8 (by decide)
  refine bodyPost_ret (results_cell_row rfl _ _ G _ _ (0, 0) _ rfl a9 Tryd.underlying28 rfl (by rw [List.size_toArray, xv.out]; kernel_rfl)) rfl ⟨b9, (((K5.trans (KeepT.ofBelow e6)).app T7 gr7.size).setR (i := 6) (.slice Aq (nl + 1) cq)).store hGw2 k9 z9, rfl, .slice Aq (nl + 1) cq, a8.same (k9 R hRG), ?_⟩
  rw [List.length_singleton, ← hnl.out, ← mlc_snoc]
  exact own_fr o8 (FrS k9 z9 b8 b9) (fun j e h => oG8 (by rw [e, h]))
set_option maxRecDepth 100000 in
set_option maxHeartbeats 4000000 in
theorem TV_bad0 (fl : List UInt8) (hs : List (List UInt8)) (tot : Nat) (Ah : Option Addr) (nh ch : Nat) (Af : Option Addr) (nf cf R : Nat) (hnh : hs.length = nh) (hnf : fl.length = nf) (hnf2 : nf ≤ 10000) (_ : nh ≤ 10000) (w0 : World) (_ : Rd w0 Ah (hcl hs)) (_ : Rd w0 Af (fl.map bv)) (hBR : w0.heap.size ≤ R)
    (i d k : Nat) (_ : i ≤ 5000) (hk : k ≤ nh) (l : List (Nat × List UInt8)) (M : Value) (w : World) (hb : Below w0.heap.size w0 w) (hA : Av w R 125 (tkc tot Ah nh ch Af nf cf d k M true))
    (h : Int) (hd : 8 * nf ≤ d) (hd2 : d ≤ 8 * nf) :
    Calls Tryd.prog 66 #[.pointer (some ⟨R, 0, none⟩), (.int .i64 h), .int .i64 (i : Int)] w (TVPost tot Ah nh ch Af nf cf R w0 l w none) := by
  have hz := zeros_32
  rw [show List.replicate 32 (0 : UInt8) = zs32 from rfl] at hz
  obtain ⟨W, hW⟩ : ∃ W, W = w.alloc (.cells (zs32.map bv).toArray 28) := ⟨_, rfl⟩
  obtain ⟨G, hG⟩ : ∃ G, G = w.heap.size := ⟨_, rfl⟩
  have bW : Below w.heap.size w W := by rw [hW]; exact (Below.refl _ _).alloc (Nat.le_refl _) _
  have aG : Av W G 28 (zs32.map bv) := by rw [hW, hG]; exact heap_alloc_new _ _
  have aR := hA.below bW
  have hRG : R ≠ G := by have := hA.lt; omega
  have hGR : G ≠ R := Ne.symm hRG
  have hGw : w0.heap.size ≤ G := by rw [hG]; exact hb.size
  have b0 : Below w0.heap.size w0 W := hb.trans (bW.mono hb.size)
  have hzone : (zs32.map bv).all (·.oneCell') = true := rfl
  have K0 : KeepT R w W := KeepT.ofBelow bW
  have hGw2 : w.heap.size ≤ G := by omega
  clear hA bW
  have HN := TNext_no tot Ah nh ch Af nf cf d k R M true hd (by omega) W aR
  replace hW := Lib.hid hW
  replace hG := Lib.hid hG
  replace hzone := Lib.hid hzone
  replace HN := Lib.hid HN
  replace hnh := Lib.hid hnh
  replace hnf := Lib.hid hnf
  replace hd := Lib.hid hd
  go_enter Tryd.func66, Tryd.ntmps66
  go_upto_region 1 with fail
  rw [← hW.out, ← hG.out]
  go_upto_region 2 with (go_at_call 67; refine HN.out.mono ?_; rintro e w1 ⟨rfl, a1, f1⟩)
  have g1 := f1.av aG hGR
  have b1 : Below w0.heap.size w0 w1 := b0.trans (f1.below (fun j e => by rw [e]; exact hBR) b0.size)
  have c7 := a1.cell 7 _ rfl
  have K1 := K0.trans (KeepT.ofFr f1)
  clear HN aR aG b0 f1 K0
  go_wp2_with (first
    | ((with_reducible refine wpList_build (.agg (zs32.map bv).toArray) ?_ ?_); (go_simp; first | done | rfl))
    | ((with_reducible refine wpList_storeFA 28 b1 g1 hGw (zs32.map bv) ?_ ?_ 32 rfl ?_ ?_ ?_ ?_); rfl; rfl; kernel_rfl; rfl; exact hzone.out; intro w9 a9 b9 k9 z9))
  refine bodyPost_ret (results_cell_row rfl _ _ G _ _ (0, 0) _ rfl a9 Tryd.underlying28 rfl (by kernel_rfl)) rfl ⟨b9, K1.store hGw2 k9 z9, rfl, d, k, M, hd2, hk, a1.same (k9 R hRG)⟩
set_option maxRecDepth 100000 in
set_option maxHeartbeats 4000000 in
theorem TV_bad1 (fl : List UInt8) (hs : List (List UInt8)) (tot : Nat) (Ah : Option Addr) (nh ch : Nat) (Af : Option Addr) (nf cf R : Nat) (hnh : hs.length = nh) (hnf : fl.length = nf) (hnf2 : nf ≤ 10000) (_ : nh ≤ 10000) (w0 : World) (_ : Rd w0 Ah (hcl hs)) (hrf : Rd w0 Af (fl.map bv)) (hBR : w0.heap.size ≤ R)
    (i d k : Nat) (_ : i ≤ 5000) (hk : k ≤ nh) (l : List (Nat × List UInt8)) (M : Value) (w : World) (hb : Below w0.heap.size w0 w) (hA : Av w R 125 (tkc tot Ah nh ch Af nf cf d k M true))
    (h : Int) (b : Bool) (hd : pDig fl d = some b) :
    Calls Tryd.prog 66 #[.pointer (some ⟨R, 0, none⟩), (.int .i64 h), .int .i64 (i : Int)] w (TVPost tot Ah nh ch Af nf cf R w0 l w none) := by
  have hz := zeros_32
  rw [show List.replicate 32 (0 : UInt8) = zs32 from rfl] at hz
  obtain ⟨W, hW⟩ : ∃ W, W = w.alloc (.cells (zs32.map bv).toArray 28) := ⟨_, rfl⟩
  obtain ⟨G, hG⟩ : ∃ G, G = w.heap.size := ⟨_, rfl⟩
  have bW : Below w.heap.size w W := by rw [hW]; exact (Below.refl _ _).alloc (Nat.le_refl _) _
  have aG : Av W G 28 (zs32.map bv) := by rw [hW, hG]; exact heap_alloc_new _ _
  have aR := hA.below bW
  have hRG : R ≠ G := by have := hA.lt; omega
  have hGR : G ≠ R := Ne.symm hRG
  have hGw : w0.heap.size ≤ G := by rw [hG]; exact hb.size
  have b0 : Below w0.heap.size w0 W := hb.trans (bW.mono hb.size)
  have hzone : (zs32.map bv).all (·.oneCell') = true := rfl
  have K0 : KeepT R w W := KeepT.ofBelow bW
  have hGw2 : w.heap.size ≤ G := by omega
  clear hA bW
  have HN := TNext fl b tot Ah nh ch Af nf cf d k R M true hnf hnf2 hd (by have := pDig_some hd; omega) W aR (hrf.below b0)
  have hdl := pDig_some hd
  replace hW := Lib.hid hW
  replace hG := Lib.hid hG
  replace hzone := Lib.hid hzone
  replace HN := Lib.hid HN
  replace hnh := Lib.hid hnh
  replace hnf := Lib.hid hnf
  replace hd := Lib.hid hd
  go_enter Tryd.func66, Tryd.ntmps66
  go_upto_region 1 with fail
  rw [← hW.out, ← hG.out]
  go_upto_region 2 with (go_at_call 67; refine HN.out.mono ?_; rintro e w1 ⟨rfl, a1, f1⟩)
  have g1 := f1.av aG hGR
  have b1 : Below w0.heap.size w0 w1 := b0.trans (f1.below (fun j e => by rw [e]; exact hBR) b0.size)
  have c7 := a1.cell 7 _ rfl
  have K1 := K0.trans (KeepT.ofFr f1)
  clear HN aR aG b0 f1 K0
  go_wp2_with (first
    | ((with_reducible refine wpList_build (.agg (zs32.map bv).toArray) ?_ ?_); (go_simp; first | done | rfl))
    | ((with_reducible refine wpList_storeFA 28 b1 g1 hGw (zs32.map bv) ?_ ?_ 32 rfl ?_ ?_ ?_ ?_); rfl; rfl; kernel_rfl; rfl; exact hzone.out; intro w9 a9 b9 k9 z9))
  refine bodyPost_ret (results_cell_row rfl _ _ G _ _ (0, 0) _ rfl a9 Tryd.underlying28 rfl (by kernel_rfl)) rfl ⟨b9, K1.store hGw2 k9 z9, rfl, d + 1, k, M, by have := hdl; rw [hnf.out] at this; omega, hk, a1.same (k9 R hRG)⟩
end Go.Proofs.YtdkknincamkhpaaDoor
