/- partial: left, right, may, done. -/
import Derived.Test.YtdkknincamkhpaaDoorPr10
namespace Go.Proofs.YtdkknincamkhpaaDoor
open Go.RowKit
attribute [local go_sem high] slB_lh slB_l slB_h
/-- a node's cells -/
abbrev ndc (h i : Int) : List Value := [.int .i64 h, .int .i64 i]
theorem Av.new (w : World) (l : List Value) (t : TypeId) : Av (w.alloc (.cells l.toArray t)) w.heap.size t l := heap_alloc_new _ _
theorem Av.newer (w : World) (l : List Value) (t : TypeId) (o : Obj) : Av ((w.alloc (.cells l.toArray t)).alloc o) w.heap.size t l := (Av.new w l t).below ((Below.refl _ _).alloc (Nat.le_refl _) _)
theorem pWd_of (n h : Nat) (hn : n ≤ 4096) (hh : h ≤ 12) : mWidth (n : Int) (h : Int) = ((pWd n h : Nat) : Int) := by rw [mWidth_nat n h hn hh, pWd]
set_option maxRecDepth 10000 in
set_option maxHeartbeats 1000000 in
theorem PLeft (h i : Int) (h0 : 1 ≤ h) (h1 : h ≤ 100) (i0 : 0 ≤ i) (i1 : i ≤ 1000000) (w : World) :
    Calls Tryd.prog 59 #[.agg (ndc h i).toArray] w fun e w' => e = .returned (.agg (ndc (h - 1) (2 * i)).toArray) ∧ Below w.heap.size w w' := by
  unfold ndc
  obtain ⟨W, hW⟩ : ∃ W, W = (w.alloc (.cells [.int .i64 h, .int .i64 i].toArray 91)).alloc (.cells [.int .i64 0, .int .i64 0].toArray 91) := ⟨_, rfl⟩
  obtain ⟨H, hH⟩ : ∃ H, H = w.heap.size := ⟨_, rfl⟩
  have bW : Below w.heap.size w W := by rw [hW]; exact ((Below.refl _ _).alloc (Nat.le_refl _) _).alloc (by simp) _
  have aN : Av W H 91 (ndc h i) := by rw [hW, hH]; exact Av.newer w (ndc h i) _ _
  have aR : Av W (H + 1) 91 (ndc 0 0) := by rw [hW, hH, ← World.size_alloc w (.cells [.int .i64 h, .int .i64 i].toArray 91)]; exact heap_alloc_new _ _
  have c0 := aN.cell 0 _ rfl
  have c1 := aN.cell 1 _ rfl
  have hge : w.heap.size ≤ H + 1 := by rw [hH]; omega
  replace hW := Lib.hid hW
  replace hH := Lib.hid hH
  go_enter Tryd.func59, Tryd.ntmps59
  go_upto_region 1 with fail
  rw [← hW.out, ← hH.out]
  go_wp2_with ((with_reducible refine wpList_storeFA 91 bW aR hge (ndc (h - 1) (2 * i)) ?_ ?_ 2 rfl ?_ ?_ ?_ ?_); rfl; rfl; kernel_rfl; rfl; rfl; intro w3 a3 b3 k3 z3)
  refine bodyPost_ret (results_cell_row rfl _ _ (H + 1) _ _ (0, 0) _ (by rfl) a3 Tryd.underlying91 rfl (by kernel_rfl)) rfl ⟨rfl, b3⟩
set_option maxRecDepth 10000 in
set_option maxHeartbeats 2000000 in
theorem PRight (n h i : Nat) (hn : n ≤ 4096) (h1 : h ≤ 12) (i1 : i ≤ 1000000) (w : World) :
    Calls Tryd.prog 61 #[.agg (ndc ((h : Int) + 1) (i : Int)).toArray, .int .i64 (n : Int)] w fun e w' => e = .returned (.tuple #[.agg (ndc (h : Int) (2 * (i : Int) + 1)).toArray, .bool (decide (2 * i + 1 < pWd n h))]) ∧ Below w.heap.size w w' := by
  unfold ndc
  have HW := Width (n : Int) (h : Int)
  rw [pWd_of n h hn h1] at HW
  obtain ⟨b, hb⟩ : ∃ b, b = decide (2 * i + 1 < pWd n h) := ⟨_, rfl⟩
  have hb2 : decide (2 * (i : Int) + 1 < (pWd n h : Int)) = b := by rw [hb]; exact decide_eq_decide.2 (by omega)
  rw [← hb]
  generalize (pWd n h : Int) = P at *
  obtain ⟨W, hW⟩ : ∃ W, W = (w.alloc (.cells [.int .i64 ((h : Int) + 1), .int .i64 (i : Int)].toArray 91)).alloc (.cells [.int .i64 0, .int .i64 0].toArray 91) := ⟨_, rfl⟩
  obtain ⟨H, hH⟩ : ∃ H, H = w.heap.size := ⟨_, rfl⟩
  have bW : Below w.heap.size w W := by rw [hW]; exact ((Below.refl _ _).alloc (Nat.le_refl _) _).alloc (by simp) _
  have aN : Av W H 91 (ndc ((h : Int) + 1) (i : Int)) := by rw [hW, hH]; exact Av.newer w (ndc ((h : Int) + 1) (i : Int)) _ _
  have aR : Av W (H + 1) 91 (ndc 0 0) := by rw [hW, hH, ← World.size_alloc w (.cells [.int .i64 ((h : Int) + 1), .int .i64 (i : Int)].toArray 91)]; exact heap_alloc_new _ _
  have sW : W.heap.size = H + 2 := by rw [hW, hH]; simp
  have hge : w.heap.size ≤ H + 1 := by rw [hH]; omega
  have c0 := aN.cell 0 _ rfl
  have c1 := aN.cell 1 _ rfl
  replace hb := Lib.hid hb
  replace hb2 := Lib.hid hb2
  replace HW := Lib.hid HW
  replace hW := Lib.hid hW
  replace hH := Lib.hid hH
  replace sW := Lib.hid sW
  go_enter Tryd.func61, Tryd.ntmps61
  go_upto_region 1 with fail
  rw [← hW.out, ← hH.out]
  go_upto_region 2 with ((with_reducible refine wpList_storeF 91 ((Below.refl W.heap.size W).alloc (Nat.le_refl _) _) (heap_alloc_new _ _) (Nat.le_refl _) (ndc (h : Int) (2 * (i : Int) + 1)) ?_ ?_ 2 rfl ?_ ?_ ?_ ?_); rfl; rfl; kernel_rfl; rfl; rfl; intro w3 a3 b3 k3 z3; clear k3; replace z3 := Lib.hid z3)
  obtain ⟨G, hG⟩ : ∃ G, G = W.heap.size := ⟨_, rfl⟩
  have hGH : G = H + 2 := by rw [hG, sW.out]
  rw [← hG] at a3 ⊢
  replace hG := Lib.hid hG
  have bw3 := bW.trans (b3.mono bW.size)
  have r3 := aR.below b3
  have hne : G ≠ H + 1 := by omega
  replace hGH := Lib.hid hGH
  clear aN aR c0 c1
  refine wp_region_relG 9 [] [(8, fun w' => Av w' (H + 1) 91 (ndc (h : Int) (2 * (i : Int) + 1)))] (RS (H + 1) 91 (ndc (h : Int) (2 * (i : Int) + 1))) (by kernel_rfl) (by kernel_rfl) (by kernel_rfl) (by kernel_rfl) (by kernel_rfl) (by kernel_rfl) (fun w => RS.refl w) RS.trans (by intro p hp; cases hp) (by
    intro p hp w w' hR h
    simp only [List.mem_singleton] at hp
    subst hp
    exact hR.2.1 h) ?_
  refine gel (fun w => RS.refl w) rfl (relPure (fun w => RS.refl w) rfl rfl rfl rfl (c := .agg (ndc (h : Int) (2 * (i : Int) + 1)).toArray) (fun w hw => exec_loadAv (l := ndc (h : Int) (2 * (i : Int) + 1)) (hw.1.av a3.drew hne) _ _ rfl rfl _ 2 rfl Tryd.underlying91 rfl (by kernel_rfl)) (by simp only [List.set_cons_succ, List.set_cons_zero]; rfl) (gend ?_))
  refine gel (fun w => RS.refl w) rfl (relPure (fun w => RS.refl w) rfl rfl rfl rfl (fun w _ => by go_simp; first | done | rfl) (by simp only [List.set_cons_succ, List.set_cons_zero]; rfl) (gend ?_))
  refine gel (fun w => RS.refl w) rfl (relPure (fun w => RS.refl w) rfl rfl rfl rfl (c := .int .i64 (2 * (i : Int) + 1)) (fun w hw => by have := (hw.1.av a3.drew hne).cell 1 _ rfl; go_simp; first | done | rfl) (by simp only [List.set_cons_succ, List.set_cons_zero]; rfl) (gend ?_))
  refine gel (fun w => RS.refl w) rfl (relMove (fun w => RS.refl w) rfl rfl rfl rfl _ (.inl rfl) (by conv => lhs; whnf) (by simp only [List.set_cons_succ, List.set_cons_zero]; rfl) (gend ?_))
  refine gel (fun w => RS.refl w) rfl (relPure (fun w => RS.refl w) rfl rfl rfl rfl (fun w _ => by go_simp; first | done | rfl) (by simp only [List.set_cons_succ, List.set_cons_zero]; rfl) (gend ?_))
  refine gel (fun w => RS.refl w) rfl (relPure (fun w => RS.refl w) rfl rfl rfl rfl (c := .int .i64 (h : Int)) (fun w hw => by have := (hw.1.av a3.drew hne).cell 0 _ rfl; go_simp; first | done | rfl) (by simp only [List.set_cons_succ, List.set_cons_zero]; rfl) (gend ?_))
  refine gel (fun w => RS.refl w) rfl (relCall1 rfl rfl rfl rfl (c := .int .i64 P) 43 #[.int .i64 (n : Int), .int .i64 (h : Int)] (fun w => by go_simp) (fun w hw => (HW.out w).mono (by rintro e w' ⟨rfl, rfl⟩; exact ⟨rfl, RS.refl _⟩)) (by simp only [List.set_cons_succ, List.set_cons_zero]; rfl) (gend ?_))
  refine gel (fun w => RS.refl w) rfl (relPure (fun w => RS.refl w) rfl rfl rfl rfl (c := .bool b) (fun w _ => by have := hb2.out; go_simp; first | done | rfl) (by simp only [List.set_cons_succ, List.set_cons_zero]; rfl) (gend ?_))
  refine gStore rfl rfl (fun w hw => exec_storeAv (C := ndc (h : Int) (2 * (i : Int) + 1)) r3.drew rfl hw _ _ _ rfl rfl rfl 2 rfl (by kernel_rfl) rfl 8) ?_
  refine relEndG fun w5 hw5 hg => ?_
  simp only [List.drop_succ_cons, List.drop_zero]
  have a5 := hg (8, fun w' => Av w' (H + 1) 91 (ndc (h : Int) (2 * (i : Int) + 1))) (List.mem_singleton.2 rfl)
  have f5 := Fr.ofDrew hw5.1
  go_wp2
  refine bodyPost_ret (v := .tuple #[.agg (ndc (h : Int) (2 * (i : Int) + 1)).toArray, .bool b]) ((results_cellU (C := ndc (h : Int) (2 * (i : Int) + 1)) (by rfl) (by rfl) a5 _ Tryd.underlying91 rfl 2 rfl (by kernel_rfl)).trans (by rfl)) (by rfl) ?_
  exact ⟨rfl, bw3.trans (f5.below (fun k hk => by omega) bw3.size)⟩
set_option maxRecDepth 10000 in
set_option maxHeartbeats 1000000 in
theorem PMay_zero (tot : Nat) (Ah : Option Addr) (nh ch : Nat) (Af : Option Addr) (nf cf : Nat) (_ : nh ≤ 1000000) (_ : nf ≤ 1000000) (_ : tot < 4294967296) (h : tot = 0) (w : World) :
    Calls Tryd.prog 39 #[.agg (trc tot Ah nh ch Af nf cf).toArray] w fun e w' => e = .returned (.bool false) ∧ Below w.heap.size w w' := by
  unfold trc
  have t1 : ((tot : Int) == 0) = true := by simp; omega
  replace h := Lib.hid h
  obtain ⟨W, hW⟩ : ∃ W, W = w.alloc (.cells [.int .u32 (tot : Int), .slice Ah nh ch, .slice Af nf cf].toArray 33) := ⟨_, rfl⟩
  obtain ⟨H, hH⟩ : ∃ H, H = w.heap.size := ⟨_, rfl⟩
  have bW : Below w.heap.size w W := by rw [hW]; exact (Below.refl _ _).alloc (Nat.le_refl _) _
  have aT : Av W H 33 (trc tot Ah nh ch Af nf cf) := by rw [hW, hH]; exact Av.new _ _ _
  have c0 := aT.cell 0 _ rfl
  have c1 := aT.cell 1 _ rfl
  have c2 := aT.cell 2 _ rfl
  replace hW := Lib.hid hW
  replace hH := Lib.hid hH
  clear aT
  go_enter Tryd.func39, Tryd.ntmps39
  go_upto_region 1 with fail
  rw [← hW.out, ← hH.out]
  go_wp2
  go_ret
  exact ⟨rfl, bW⟩
set_option maxRecDepth 10000 in
set_option maxHeartbeats 1000000 in
theorem PMay_most (tot : Nat) (Ah : Option Addr) (nh ch : Nat) (Af : Option Addr) (nf cf : Nat) (_ : nh ≤ 1000000) (_ : nf ≤ 1000000) (ht : tot < 4294967296) (h : 4096 < tot) (w : World) :
    Calls Tryd.prog 39 #[.agg (trc tot Ah nh ch Af nf cf).toArray] w fun e w' => e = .returned (.bool false) ∧ Below w.heap.size w w' := by
  unfold trc
  have t1 : ((tot : Int) == 0) = false := by simp; omega
  have t2 : decide ((4096 : Int) < (tot : Int)) = true := by simp; omega
  obtain ⟨W, hW⟩ : ∃ W, W = w.alloc (.cells [.int .u32 (tot : Int), .slice Ah nh ch, .slice Af nf cf].toArray 33) := ⟨_, rfl⟩
  obtain ⟨H, hH⟩ : ∃ H, H = w.heap.size := ⟨_, rfl⟩
  have bW : Below w.heap.size w W := by rw [hW]; exact (Below.refl _ _).alloc (Nat.le_refl _) _
  have aT : Av W H 33 (trc tot Ah nh ch Af nf cf) := by rw [hW, hH]; exact Av.new _ _ _
  have c0 := aT.cell 0 _ rfl
  have c1 := aT.cell 1 _ rfl
  have c2 := aT.cell 2 _ rfl
  replace hW := Lib.hid hW
  replace hH := Lib.hid hH
  clear aT
  go_enter Tryd.func39, Tryd.ntmps39
  go_upto_region 1 with fail
  rw [← hW.out, ← hH.out]
  go_wp2
  go_ret
  exact ⟨rfl, bW⟩
set_option maxRecDepth 10000 in
set_option maxHeartbeats 1000000 in
theorem PMay_more (tot : Nat) (Ah : Option Addr) (nh ch : Nat) (Af : Option Addr) (nf cf : Nat) (_ : nh ≤ 1000000) (_ : nf ≤ 1000000) (ht : tot < 4294967296) (h0 : tot ≠ 0) (h : tot ≤ 4096) (h2 : tot < nh) (w : World) :
    Calls Tryd.prog 39 #[.agg (trc tot Ah nh ch Af nf cf).toArray] w fun e w' => e = .returned (.bool false) ∧ Below w.heap.size w w' := by
  unfold trc
  have t1 : ((tot : Int) == 0) = false := by simp; omega
  have t2 : decide ((4096 : Int) < (tot : Int)) = false := by simp; omega
  have t3 : decide ((nh : Int) ≤ (tot : Int)) = false := by simp; omega
  replace h0 := Lib.hid h0
  obtain ⟨W, hW⟩ : ∃ W, W = w.alloc (.cells [.int .u32 (tot : Int), .slice Ah nh ch, .slice Af nf cf].toArray 33) := ⟨_, rfl⟩
  obtain ⟨H, hH⟩ : ∃ H, H = w.heap.size := ⟨_, rfl⟩
  have bW : Below w.heap.size w W := by rw [hW]; exact (Below.refl _ _).alloc (Nat.le_refl _) _
  have aT : Av W H 33 (trc tot Ah nh ch Af nf cf) := by rw [hW, hH]; exact Av.new _ _ _
  have c0 := aT.cell 0 _ rfl
  have c1 := aT.cell 1 _ rfl
  have c2 := aT.cell 2 _ rfl
  replace hW := Lib.hid hW
  replace hH := Lib.hid hH
  clear aT
  go_enter Tryd.func39, Tryd.ntmps39
  go_upto_region 1 with fail
  rw [← hW.out, ← hH.out]
  go_wp2
  go_ret
  exact ⟨rfl, bW⟩
set_option maxRecDepth 10000 in
set_option maxHeartbeats 1000000 in
theorem PMay_yes (tot : Nat) (Ah : Option Addr) (nh ch : Nat) (Af : Option Addr) (nf cf : Nat) (_ : nh ≤ 1000000) (hn2 : nf ≤ 1000000) (ht : tot < 4294967296) (h0 : tot ≠ 0) (h : tot ≤ 4096) (h2 : nh ≤ tot) (b : Bool) (hb : decide (nh ≤ 8 * nf) = b) (w : World) :
    Calls Tryd.prog 39 #[.agg (trc tot Ah nh ch Af nf cf).toArray] w fun e w' => e = .returned (.bool b) ∧ Below w.heap.size w w' := by
  unfold trc
  have t1 : ((tot : Int) == 0) = false := by simp; omega
  have t2 : decide ((4096 : Int) < (tot : Int)) = false := by simp; omega
  have t3 : decide ((nh : Int) ≤ (tot : Int)) = true := by simp; omega
  have t4 : decide ((nh : Int) ≤ 8 * (nf : Int)) = b := by rw [← hb]; exact decide_eq_decide.2 (by omega)
  replace hb := Lib.hid hb
  replace h0 := Lib.hid h0
  obtain ⟨W, hW⟩ : ∃ W, W = w.alloc (.cells [.int .u32 (tot : Int), .slice Ah nh ch, .slice Af nf cf].toArray 33) := ⟨_, rfl⟩
  obtain ⟨H, hH⟩ : ∃ H, H = w.heap.size := ⟨_, rfl⟩
  have bW : Below w.heap.size w W := by rw [hW]; exact (Below.refl _ _).alloc (Nat.le_refl _) _
  have aT : Av W H 33 (trc tot Ah nh ch Af nf cf) := by rw [hW, hH]; exact Av.new _ _ _
  have c0 := aT.cell 0 _ rfl
  have c1 := aT.cell 1 _ rfl
  have c2 := aT.cell 2 _ rfl
  replace hW := Lib.hid hW
  replace hH := Lib.hid hH
  clear aT
  go_enter Tryd.func39, Tryd.ntmps39
  go_upto_region 1 with fail
  rw [← hW.out, ← hH.out]
  go_wp2
  go_ret
  exact ⟨rfl, bW⟩
theorem PMay (hs : List (List UInt8)) (fl : List UInt8) (tot : Nat) (Ah : Option Addr) (nh ch : Nat) (Af : Option Addr) (nf cf : Nat) (hnh : hs.length = nh) (hnf : fl.length = nf) (hn1 : nh ≤ 1000000) (hn2 : nf ≤ 1000000) (ht : tot < 4294967296) (w : World) :
    Calls Tryd.prog 39 #[.agg (trc tot Ah nh ch Af nf cf).toArray] w fun e w' => e = .returned (.bool (pMay tot hs fl)) ∧ Below w.heap.size w w' := by
  unfold pMay
  rw [hnh, hnf]
  by_cases h0 : tot = 0
  · rw [decide_eq_false (fun h => h.1 h0)]
    exact PMay_zero tot Ah nh ch Af nf cf hn1 hn2 ht h0 w
  by_cases h1 : 4096 < tot
  · rw [decide_eq_false (by omega)]
    exact PMay_most tot Ah nh ch Af nf cf hn1 hn2 ht h1 w
  by_cases h2 : tot < nh
  · rw [decide_eq_false (by omega)]
    exact PMay_more tot Ah nh ch Af nf cf hn1 hn2 ht h0 (by omega) h2 w
  · exact PMay_yes tot Ah nh ch Af nf cf hn1 hn2 ht h0 (by omega) (by omega) _ (decide_eq_decide.2 (by omega)) w
set_option maxRecDepth 10000 in
set_option maxHeartbeats 2000000 in
theorem PDone_k (tot : Nat) (Ah : Option Addr) (nh ch : Nat) (Af : Option Addr) (nf cf d k R : Nat) (h : k ≠ nh) (w : World) (hA : Av w R 80 (rdc tot Ah nh ch Af nf cf d k)) :
    Calls Tryd.prog 41 #[.pointer (some ⟨R, 0, none⟩)] w fun e w' => e = .returned (.bool false) ∧ Below w.heap.size w w' := by
  unfold rdc at hA
  have t1 : ((k : Int) != (nh : Int)) = true := by simp; omega
  go_enter Tryd.func41, Tryd.ntmps41
  go_upto_region 1 with fail
  refine wp_region_rel [] Ext (by kernel_rfl) (by kernel_rfl) (by kernel_rfl) Ext.refl Ext.trans (by intro p hp; cases hp) ?_
  refine relMove Ext.refl rfl rfl rfl rfl _ (.inl rfl) (by conv => lhs; whnf) (by simp only [List.set_cons_succ, List.set_cons_zero]; rfl) ?_
  refine relPure Ext.refl rfl rfl rfl rfl (fun w _ => by go_simp; first | done | rfl) (by simp only [List.set_cons_succ, List.set_cons_zero]; rfl) ?_
  refine relPure Ext.refl rfl rfl rfl rfl (fun w _ => by go_simp; first | done | rfl) (by simp only [List.set_cons_succ, List.set_cons_zero]; rfl) ?_
  refine relPure Ext.refl rfl rfl rfl rfl (c := .int .i64 (k : Int)) (fun w hw => by have := (hA.below hw.drew).cell 4 _ rfl; go_simp; first | done | rfl) (by simp only [List.set_cons_succ, List.set_cons_zero]; rfl) ?_
  refine relMove Ext.refl rfl rfl rfl rfl _ (.inl rfl) (by conv => lhs; whnf) (by simp only [List.set_cons_succ, List.set_cons_zero]; rfl) ?_
  refine relPure Ext.refl rfl rfl rfl rfl (fun w _ => by go_simp; first | done | rfl) (by simp only [List.set_cons_succ, List.set_cons_zero]; rfl) ?_
  refine relPure Ext.refl rfl rfl rfl rfl (fun w _ => by go_simp; first | done | rfl) (by simp only [List.set_cons_succ, List.set_cons_zero]; rfl) ?_
  refine relPure Ext.refl rfl rfl rfl rfl (fun w _ => by go_simp; first | done | rfl) (by simp only [List.set_cons_succ, List.set_cons_zero]; rfl) ?_
  refine relPure Ext.refl rfl rfl rfl rfl (c := .slice Ah nh ch) (fun w hw => by have := (hA.below hw.drew).cell 1 _ rfl; go_simp; first | done | rfl) (by simp only [List.set_cons_succ, List.set_cons_zero]; rfl) ?_
  refine relPure Ext.refl rfl rfl rfl rfl (fun w _ => by go_simp; first | done | rfl) (by simp only [List.set_cons_succ, List.set_cons_zero]; rfl) ?_
  refine relPure Ext.refl rfl rfl rfl rfl (fun w _ => by go_simp; first | done | rfl) (by simp only [List.set_cons_succ, List.set_cons_zero]; rfl) ?_
  refine relMove Ext.refl rfl rfl rfl rfl _ (.inl rfl) (by conv => lhs; whnf) (by simp only [List.set_cons_succ, List.set_cons_zero]; rfl) ?_
  refine relSkip rfl rfl rfl rfl (by simp only [List.set_cons_succ, List.set_cons_zero]; rfl) ?_
  refine relSkip rfl rfl rfl rfl (by simp only [List.set_cons_succ, List.set_cons_zero]; rfl) ?_
  refine relSkip rfl rfl rfl rfl (by simp only [List.set_cons_succ, List.set_cons_zero]; rfl) ?_
  refine relSkip rfl rfl rfl rfl (by simp only [List.set_cons_succ, List.set_cons_zero]; rfl) ?_
  refine relSkip rfl rfl rfl rfl (by simp only [List.set_cons_succ, List.set_cons_zero]; rfl) ?_
  refine relSkip rfl rfl rfl rfl (by simp only [List.set_cons_succ, List.set_cons_zero]; rfl) ?_
  refine relSkip rfl rfl rfl rfl (by simp only [List.set_cons_succ, List.set_cons_zero]; rfl) ?_
  refine relSkip rfl rfl rfl rfl (by simp only [List.set_cons_succ, List.set_cons_zero]; rfl) ?_
  refine relSkip rfl rfl rfl rfl (by simp only [List.set_cons_succ, List.set_cons_zero]; rfl) ?_
  refine relSkip rfl rfl rfl rfl (by simp only [List.set_cons_succ, List.set_cons_zero]; rfl) ?_
  refine relSkip rfl rfl rfl rfl (by simp only [List.set_cons_succ, List.set_cons_zero]; rfl) ?_
  refine relSkip rfl rfl rfl rfl (by simp only [List.set_cons_succ, List.set_cons_zero]; rfl) ?_
  refine relSkip rfl rfl rfl rfl (by simp only [List.set_cons_succ, List.set_cons_zero]; rfl) ?_
  refine relPick Ext.refl rfl rfl rfl rfl _ _ _ rfl rfl (by conv => lhs; whnf) (by simp only [List.set_cons_succ, List.set_cons_zero]; rfl) ?_
  refine relEnd fun w2 hw2 => fill_end ?_
  go_wp2
  go_ret
  exact ⟨rfl, hw2.drew⟩
set_option maxRecDepth 10000 in
set_option maxHeartbeats 2000000 in
theorem PDone_d (tot : Nat) (Ah : Option Addr) (nh ch : Nat) (Af : Option Addr) (nf cf d k R : Nat) (hd2 : d ≤ 1000000) (h : k = nh) (hq : (d + 7) / 8 ≠ nf) (w : World) (hA : Av w R 80 (rdc tot Ah nh ch Af nf cf d k)) :
    Calls Tryd.prog 41 #[.pointer (some ⟨R, 0, none⟩)] w fun e w' => e = .returned (.bool false) ∧ Below w.heap.size w w' := by
  unfold rdc at hA
  subst h
  have t1 : ((k : Int) != (k : Int)) = false := by simp
  obtain ⟨q, hqq⟩ : ∃ q, q = (d + 7) / 8 := ⟨_, rfl⟩
  have wk1 : IntKind.i64.wrap ((d : Int) + 7) = (d : Int) + 7 := by rw [IntKind.wrap_i64]; omega
  have wk2 : IntKind.i64.wrap (((d : Int) + 7).tdiv 8) = (q : Int) := by rw [Int.tdiv_eq_ediv_of_nonneg (by omega), IntKind.wrap_i64]; omega
  replace wk1 := Lib.hid wk1
  replace wk2 := Lib.hid wk2
  have t2 : ((q : Int) != (nf : Int)) = true := by simp; omega
  replace hq := Lib.hid hq
  replace hqq := Lib.hid hqq
  go_enter Tryd.func41, Tryd.ntmps41
  go_upto_region 1 with fail
  refine wp_region_rel [] Ext (by kernel_rfl) (by kernel_rfl) (by kernel_rfl) Ext.refl Ext.trans (by intro p hp; cases hp) ?_
  refine relMove Ext.refl rfl rfl rfl rfl _ (.inl rfl) (by conv => lhs; whnf) (by simp only [List.set_cons_succ, List.set_cons_zero]; rfl) ?_
  refine relPure Ext.refl rfl rfl rfl rfl (fun w _ => by go_simp; first | done | rfl) (by simp only [List.set_cons_succ, List.set_cons_zero]; rfl) ?_
  refine relPure Ext.refl rfl rfl rfl rfl (fun w _ => by go_simp; first | done | rfl) (by simp only [List.set_cons_succ, List.set_cons_zero]; rfl) ?_
  refine relPure Ext.refl rfl rfl rfl rfl (c := .int .i64 (k : Int)) (fun w hw => by have := (hA.below hw.drew).cell 4 _ rfl; go_simp; first | done | rfl) (by simp only [List.set_cons_succ, List.set_cons_zero]; rfl) ?_
  refine relMove Ext.refl rfl rfl rfl rfl _ (.inl rfl) (by conv => lhs; whnf) (by simp only [List.set_cons_succ, List.set_cons_zero]; rfl) ?_
  refine relPure Ext.refl rfl rfl rfl rfl (fun w _ => by go_simp; first | done | rfl) (by simp only [List.set_cons_succ, List.set_cons_zero]; rfl) ?_
  refine relPure Ext.refl rfl rfl rfl rfl (fun w _ => by go_simp; first | done | rfl) (by simp only [List.set_cons_succ, List.set_cons_zero]; rfl) ?_
  refine relPure Ext.refl rfl rfl rfl rfl (fun w _ => by go_simp; first | done | rfl) (by simp only [List.set_cons_succ, List.set_cons_zero]; rfl) ?_
  refine relPure Ext.refl rfl rfl rfl rfl (c := .slice Ah k ch) (fun w hw => by have := (hA.below hw.drew).cell 1 _ rfl; go_simp; first | done | rfl) (by simp only [List.set_cons_succ, List.set_cons_zero]; rfl) ?_
  refine relPure Ext.refl rfl rfl rfl rfl (fun w _ => by go_simp; first | done | rfl) (by simp only [List.set_cons_succ, List.set_cons_zero]; rfl) ?_
  refine relPure Ext.refl rfl rfl rfl rfl (fun w _ => by go_simp; first | done | rfl) (by simp only [List.set_cons_succ, List.set_cons_zero]; rfl) ?_
  refine relMove Ext.refl rfl rfl rfl rfl _ (.inl rfl) (by conv => lhs; whnf) (by simp only [List.set_cons_succ, List.set_cons_zero]; rfl) ?_
  refine relMove Ext.refl rfl rfl rfl rfl _ (.inl rfl) (by conv => lhs; whnf) (by simp only [List.set_cons_succ, List.set_cons_zero]; rfl) ?_
  refine relPure Ext.refl rfl rfl rfl rfl (fun w _ => by go_simp; first | done | rfl) (by simp only [List.set_cons_succ, List.set_cons_zero]; rfl) ?_
  refine relPure Ext.refl rfl rfl rfl rfl (fun w _ => by go_simp; first | done | rfl) (by simp only [List.set_cons_succ, List.set_cons_zero]; rfl) ?_
  refine relPure Ext.refl rfl rfl rfl rfl (c := .int .i64 (d : Int)) (fun w hw => by have := (hA.below hw.drew).cell 3 _ rfl; go_simp; first | done | rfl) (by simp only [List.set_cons_succ, List.set_cons_zero]; rfl) ?_
  refine relPure Ext.refl rfl rfl rfl rfl (c := .int .i64 ((d : Int) + 7)) (fun w _ => by have := wk1.out; go_simp; first | done | rfl) (by simp only [List.set_cons_succ, List.set_cons_zero]; rfl) ?_
  refine relPure Ext.refl rfl rfl rfl rfl (c := .int .i64 (q : Int)) (fun w _ => by have := wk2.out; go_simp; first | done | rfl) (by simp only [List.set_cons_succ, List.set_cons_zero]; rfl) ?_
  refine relMove Ext.refl rfl rfl rfl rfl _ (.inl rfl) (by conv => lhs; whnf) (by simp only [List.set_cons_succ, List.set_cons_zero]; rfl) ?_
  refine relPure Ext.refl rfl rfl rfl rfl (fun w _ => by go_simp; first | done | rfl) (by simp only [List.set_cons_succ, List.set_cons_zero]; rfl) ?_
  refine relPure Ext.refl rfl rfl rfl rfl (fun w _ => by go_simp; first | done | rfl) (by simp only [List.set_cons_succ, List.set_cons_zero]; rfl) ?_
  refine relPure Ext.refl rfl rfl rfl rfl (fun w _ => by go_simp; first | done | rfl) (by simp only [List.set_cons_succ, List.set_cons_zero]; rfl) ?_
  refine relPure Ext.refl rfl rfl rfl rfl (c := .slice Af nf cf) (fun w hw => by have := (hA.below hw.drew).cell 2 _ rfl; go_simp; first | done | rfl) (by simp only [List.set_cons_succ, List.set_cons_zero]; rfl) ?_
  refine relPure Ext.refl rfl rfl rfl rfl (fun w _ => by go_simp; first | done | rfl) (by simp only [List.set_cons_succ, List.set_cons_zero]; rfl) ?_
  refine relPure Ext.refl rfl rfl rfl rfl (fun w _ => by go_simp; first | done | rfl) (by simp only [List.set_cons_succ, List.set_cons_zero]; rfl) ?_
  refine relPick Ext.refl rfl rfl rfl rfl _ _ _ rfl rfl (by conv => lhs; whnf) (by simp only [List.set_cons_succ, List.set_cons_zero]; rfl) ?_
  refine relEnd fun w2 hw2 => fill_end ?_
  go_wp2
  go_ret
  exact ⟨rfl, hw2.drew⟩
theorem pRest_all {fl : List UInt8} {d j : Nat} (hj : j = (8 - d % 8) % 8) (h : ∀ i, i < j → pDig fl (d + i) ≠ some true) : pRest fl d = true := by
  unfold pRest
  rw [List.all_eq_true]
  intro i hi
  rw [List.mem_range] at hi
  simpa using h i (by omega)
theorem pRest_bad {fl : List UInt8} {d j : Nat} (hj : j < (8 - d % 8) % 8) (h : pDig fl (d + j) = some true) : pRest fl d = false := by
  unfold pRest
  rw [List.all_eq_false]
  exact ⟨j, List.mem_range.2 hj, by rw [h]; simp⟩
set_option maxRecDepth 10000 in
set_option maxHeartbeats 2000000 in
theorem PDone_yes (tot : Nat) (Ah : Option Addr) (nh ch : Nat) (Af : Option Addr) (nf cf d k R : Nat) (hd2 : d ≤ 1000000) (h : k = nh) (hq : (d + 7) / 8 = nf) (fl : List UInt8) (hnf : fl.length = nf) (w : World) (hr : Rd w Af (fl.map bv)) (hA : Av w R 80 (rdc tot Ah nh ch Af nf cf d k)) :
    Calls Tryd.prog 41 #[.pointer (some ⟨R, 0, none⟩)] w fun e w' => e = .returned (.bool (pRest fl d)) ∧ Below w.heap.size w w' := by
  unfold rdc at hA
  subst h
  have t1 : ((k : Int) != (k : Int)) = false := by simp
  obtain ⟨q, hqq⟩ : ∃ q, q = (d + 7) / 8 := ⟨_, rfl⟩
  have wk1 : IntKind.i64.wrap ((d : Int) + 7) = (d : Int) + 7 := by rw [IntKind.wrap_i64]; omega
  have wk2 : IntKind.i64.wrap (((d : Int) + 7).tdiv 8) = (q : Int) := by rw [Int.tdiv_eq_ediv_of_nonneg (by omega), IntKind.wrap_i64]; omega
  replace wk1 := Lib.hid wk1
  replace wk2 := Lib.hid wk2
  have t2 : ((q : Int) != (nf : Int)) = false := by simp; omega
  replace hqq := Lib.hid hqq
  have hq2 := hq
  replace hq := Lib.hid hq
  replace hnf := Lib.hid hnf
  go_enter Tryd.func41, Tryd.ntmps41
  go_upto_region 1 with fail
  refine wp_region_rel [] Ext (by kernel_rfl) (by kernel_rfl) (by kernel_rfl) Ext.refl Ext.trans (by intro p hp; cases hp) ?_
  refine relMove Ext.refl rfl rfl rfl rfl _ (.inl rfl) (by conv => lhs; whnf) (by simp only [List.set_cons_succ, List.set_cons_zero]; rfl) ?_
  refine relPure Ext.refl rfl rfl rfl rfl (fun w _ => by go_simp; first | done | rfl) (by simp only [List.set_cons_succ, List.set_cons_zero]; rfl) ?_
  refine relPure Ext.refl rfl rfl rfl rfl (fun w _ => by go_simp; first | done | rfl) (by simp only [List.set_cons_succ, List.set_cons_zero]; rfl) ?_
  refine relPure Ext.refl rfl rfl rfl rfl (c := .int .i64 (k : Int)) (fun w hw => by have := (hA.below hw.drew).cell 4 _ rfl; go_simp; first | done | rfl) (by simp only [List.set_cons_succ, List.set_cons_zero]; rfl) ?_
  refine relMove Ext.refl rfl rfl rfl rfl _ (.inl rfl) (by conv => lhs; whnf) (by simp only [List.set_cons_succ, List.set_cons_zero]; rfl) ?_
  refine relPure Ext.refl rfl rfl rfl rfl (fun w _ => by go_simp; first | done | rfl) (by simp only [List.set_cons_succ, List.set_cons_zero]; rfl) ?_
  refine relPure Ext.refl rfl rfl rfl rfl (fun w _ => by go_simp; first | done | rfl) (by simp only [List.set_cons_succ, List.set_cons_zero]; rfl) ?_
  refine relPure Ext.refl rfl rfl rfl rfl (fun w _ => by go_simp; first | done | rfl) (by simp only [List.set_cons_succ, List.set_cons_zero]; rfl) ?_
  refine relPure Ext.refl rfl rfl rfl rfl (c := .slice Ah k ch) (fun w hw => by have := (hA.below hw.drew).cell 1 _ rfl; go_simp; first | done | rfl) (by simp only [List.set_cons_succ, List.set_cons_zero]; rfl) ?_
  refine relPure Ext.refl rfl rfl rfl rfl (fun w _ => by go_simp; first | done | rfl) (by simp only [List.set_cons_succ, List.set_cons_zero]; rfl) ?_
  refine relPure Ext.refl rfl rfl rfl rfl (fun w _ => by go_simp; first | done | rfl) (by simp only [List.set_cons_succ, List.set_cons_zero]; rfl) ?_
  refine relMove Ext.refl rfl rfl rfl rfl _ (.inl rfl) (by conv => lhs; whnf) (by simp only [List.set_cons_succ, List.set_cons_zero]; rfl) ?_
  refine relMove Ext.refl rfl rfl rfl rfl _ (.inl rfl) (by conv => lhs; whnf) (by simp only [List.set_cons_succ, List.set_cons_zero]; rfl) ?_
  refine relPure Ext.refl rfl rfl rfl rfl (fun w _ => by go_simp; first | done | rfl) (by simp only [List.set_cons_succ, List.set_cons_zero]; rfl) ?_
  refine relPure Ext.refl rfl rfl rfl rfl (fun w _ => by go_simp; first | done | rfl) (by simp only [List.set_cons_succ, List.set_cons_zero]; rfl) ?_
  refine relPure Ext.refl rfl rfl rfl rfl (c := .int .i64 (d : Int)) (fun w hw => by have := (hA.below hw.drew).cell 3 _ rfl; go_simp; first | done | rfl) (by simp only [List.set_cons_succ, List.set_cons_zero]; rfl) ?_
  refine relPure Ext.refl rfl rfl rfl rfl (c := .int .i64 ((d : Int) + 7)) (fun w _ => by have := wk1.out; go_simp; first | done | rfl) (by simp only [List.set_cons_succ, List.set_cons_zero]; rfl) ?_
  refine relPure Ext.refl rfl rfl rfl rfl (c := .int .i64 (q : Int)) (fun w _ => by have := wk2.out; go_simp; first | done | rfl) (by simp only [List.set_cons_succ, List.set_cons_zero]; rfl) ?_
  refine relMove Ext.refl rfl rfl rfl rfl _ (.inl rfl) (by conv => lhs; whnf) (by simp only [List.set_cons_succ, List.set_cons_zero]; rfl) ?_
  refine relPure Ext.refl rfl rfl rfl rfl (fun w _ => by go_simp; first | done | rfl) (by simp only [List.set_cons_succ, List.set_cons_zero]; rfl) ?_
  refine relPure Ext.refl rfl rfl rfl rfl (fun w _ => by go_simp; first | done | rfl) (by simp only [List.set_cons_succ, List.set_cons_zero]; rfl) ?_
  refine relPure Ext.refl rfl rfl rfl rfl (fun w _ => by go_simp; first | done | rfl) (by simp only [List.set_cons_succ, List.set_cons_zero]; rfl) ?_
  refine relPure Ext.refl rfl rfl rfl rfl (c := .slice Af nf cf) (fun w hw => by have := (hA.below hw.drew).cell 2 _ rfl; go_simp; first | done | rfl) (by simp only [List.set_cons_succ, List.set_cons_zero]; rfl) ?_
  refine relPure Ext.refl rfl rfl rfl rfl (fun w _ => by go_simp; first | done | rfl) (by simp only [List.set_cons_succ, List.set_cons_zero]; rfl) ?_
  refine relPure Ext.refl rfl rfl rfl rfl (fun w _ => by go_simp; first | done | rfl) (by simp only [List.set_cons_succ, List.set_cons_zero]; rfl) ?_
  refine relPick Ext.refl rfl rfl rfl rfl _ _ _ rfl rfl (by conv => lhs; whnf) (by simp only [List.set_cons_succ, List.set_cons_zero]; rfl) ?_
  refine relEnd fun w2 hw2 => fill_end ?_
  have bw2 := hw2.drew
  have A2 := hA.below bw2
  have r2 := hr.below bw2
  have c2 := A2.cell 2 _ rfl
  have c3 := A2.cell 3 _ rfl
  clear hA
  replace hq2 := Lib.hid hq2
  go_wp2
  obtain ⟨jm, hjm⟩ : ∃ jm, jm = (8 - d % 8) % 8 := ⟨_, rfl⟩
  replace hjm := Lib.hid hjm
  go_loop [3] (fun v => ∃ j : Nat, j ≤ jm ∧ v = .int .i64 ((d + j : Nat) : Int) ∧ Hid (∀ i, i < j → pDig fl (d + i) ≠ some true)) (fun v => jm - ((intOf v).toNat - d))
  case atStart => exact ⟨0, by omega, rfl, Lib.hid (fun i hi => absurd hi (Nat.not_lt_zero _))⟩
  case round =>
    obtain ⟨j, hj, rfl, hall⟩ := hrel
    obtain ⟨e, he⟩ : ∃ e, e = d + j := ⟨_, rfl⟩
    obtain ⟨s, hs⟩ : ∃ s, s = e % 8 := ⟨_, rfl⟩
    have e2 : (e : Int) % 8 = (s : Int) := by omega
    have s0 : (0 : Int) ≤ (s : Int) := by omega
    have s8 : (s : Int) < 8 := by omega
    have hel : e ≤ 1000010 := by have := hjm.out; omega
    rw [← he]
    by_cases hlt : j < jm
    · have t3 : ((s : Int) != 0) = true := by have := hjm.out; simp; omega
      obtain ⟨p, hp⟩ : ∃ p, p = e / 8 := ⟨_, rfl⟩
      have e1 : (e : Int) / 8 = (p : Int) := by omega
      have hpn : p < nf := by have := hjm.out; have := hq2.out; omega
      have hdg : pDig fl e = some ((fl.getD p 0).toNat / 2 ^ s % 2 == 1) := by rw [hp, hs]; exact pDig_get (by rw [hnf.out]; omega)
      obtain ⟨x, hx⟩ : ∃ x, x = fl.getD p 0 := ⟨_, rfl⟩
      have hg : fl[p]? = some x := by rw [hx, List.getD_eq_getElem?_getD, List.getElem?_eq_getElem (by rw [hnf.out]; exact hpn)]; rfl
      rw [← hx] at hdg
      have hxl := Cm.u8_lt x
      obtain ⟨bb, off, rfl⟩ := r2.someA (by intro h; have := congrArg List.length h; rw [List.length_map, hnf.out] at this; simp at this; omega)
      have cx : w2.cell? ⟨bb, off + p, none⟩ = some (bv x) := by
        rcases r2 with h | ⟨b', o', hA', hc⟩
        · have := congrArg List.length h; rw [List.length_map, hnf.out] at this; simp at this; omega
        · cases hA'
          exact hc p _ (by rw [List.getElem?_map, hg]; rfl)
      have hb0 := and_one_u8 x.toNat s hxl
      obtain ⟨b, hb⟩ : ∃ b, b = (x.toNat / 2 ^ s % 2 == 1) := ⟨_, rfl⟩
      rw [← hb] at hb0 hdg
      replace hdg := Lib.hid hdg
      replace hb := Lib.hid hb
      replace hg := Lib.hid hg
      replace hx := Lib.hid hx
      replace hp := Lib.hid hp
      replace hs := Lib.hid hs
      replace he := Lib.hid he
      cases b
      · go_wp2
        go_round
        case rel =>
          refine ⟨j + 1, by omega, ?_, Lib.hid ?_⟩
          · rw [he.out]; go_num
          · intro i hi
            by_cases hij : i = j
            · rw [hij, ← he.out, hdg.out]; simp
            · exact hall.out i (by omega)
        case measure =>
          have := he.out
          simp [intOf]
          omega
      · go_wp2
        go_ret
        refine ⟨?_, bw2⟩
        rw [pRest_bad (j := j) (by have := hjm.out; omega) (by rw [← he.out]; exact hdg.out)]
        rfl
    · obtain rfl : j = jm := by omega
      have t3 : ((s : Int) != 0) = false := by have := hjm.out; simp; omega
      replace hs := Lib.hid hs
      replace he := Lib.hid he
      go_wp2
      go_ret
      refine ⟨?_, bw2⟩
      rw [pRest_all hjm.out hall.out]
      rfl
theorem PDone (hs : List (List UInt8)) (fl : List UInt8) (tot : Nat) (Ah : Option Addr) (nh ch : Nat) (Af : Option Addr) (nf cf d k R : Nat) (hnh : hs.length = nh) (hnf : fl.length = nf) (hd2 : d ≤ 1000000) (w : World) (hr : Rd w Af (fl.map bv)) (hA : Av w R 80 (rdc tot Ah nh ch Af nf cf d k)) :
    Calls Tryd.prog 41 #[.pointer (some ⟨R, 0, none⟩)] w fun e w' => e = .returned (.bool (pDone hs fl d k)) ∧ Below w.heap.size w w' := by
  unfold pDone
  rw [hnh, hnf]
  by_cases h1 : k = nh
  · by_cases h2 : (d + 7) / 8 = nf
    · rw [decide_eq_true ⟨h1, h2⟩, Bool.true_and]
      exact PDone_yes tot Ah nh ch Af nf cf d k R hd2 h1 h2 fl hnf w hr hA
    · rw [decide_eq_false (fun h => h2 h.2), Bool.false_and]
      exact PDone_d tot Ah nh ch Af nf cf d k R hd2 h1 h2 w hA
  · rw [decide_eq_false (fun h => h1 h.1), Bool.false_and]
    exact PDone_k tot Ah nh ch Af nf cf d k R h1 w hA
end Go.Proofs.YtdkknincamkhpaaDoor
