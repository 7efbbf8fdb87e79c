import Derived.Test.YtobjgebojhjhnaaDoorQr17
import Derived.Test.YtobjgebojhjhnaaDoorQr5
namespace Go.Proofs.YtobjgebojhjhnaaDoor
open Go.RowKit
attribute [local go_sem high] slB_lh slB_l slB_h
abbrev pnc (h i : Int) : List Value := [.int .i64 h, .int .i64 i]
theorem Av.new (w : World) (l : List Value) (t : TypeId) : Av (w.alloc (.cells l.toArray t)) w.heap.size t l := heap_alloc_new _ _
theorem Av.newer (w : World) (l : List Value) (t : TypeId) (o : Obj) : Av ((w.alloc (.cells l.toArray t)).alloc o) w.heap.size t l := (Av.new w l t).below ((Below.refl _ _).alloc (Nat.le_refl _) _)
theorem pWd_of (n h : Nat) (hn : n ≤ 4096) (hh : h ≤ 12) : mWidth (n : Int) (h : Int) = ((pWd n h : Nat) : Int) := by rw [mWidth_nat n h hn hh, pWd]
set_option maxRecDepth 10000 in
set_option maxHeartbeats 1000000 in
theorem PLeft (h i : Int) (h0 : 1 ≤ h) (h1 : h ≤ 100) (i0 : 0 ≤ i) (i1 : i ≤ 1000000) (w : World) :
  Calls Tryd.prog 65 #[.agg (pnc h i).toArray] w fun e w' => e = .returned (.agg (pnc (h - 1) (2 * i)).toArray) ∧ Below w.heap.size w w' := by
 unfold pnc
 obtain ⟨W, hW⟩ : ∃ W, W = (w.alloc (.cells [.int .i64 h, .int .i64 i].toArray 151)).alloc (.cells [.int .i64 0, .int .i64 0].toArray 151) := ⟨_, rfl⟩
 obtain ⟨H, hH⟩ : ∃ H, H = w.heap.size := ⟨_, rfl⟩
 have bW : Below w.heap.size w W := by rw [hW]; exact ((Below.refl _ _).alloc (Nat.le_refl _) _).alloc (by simp) _
 have aN : Av W H 151 (pnc h i) := by rw [hW, hH]; exact Av.newer w (pnc h i) _ _
 have aR : Av W (H + 1) 151 (pnc 0 0) := by rw [hW, hH, ← World.size_alloc w (.cells [.int .i64 h, .int .i64 i].toArray 151)]; exact heap_alloc_new _ _
 have c0 := aN.cell 0 _ rfl
 have c1 := aN.cell 1 _ rfl
 have hge : w.heap.size ≤ H + 1 := by rw [hH]; omega
 replace hW := Lib.hid hW
 replace hH := Lib.hid hH
 go_enter Tryd.func65, Tryd.ntmps65
 go_upto_region 1 with fail
 rw [← hW.out, ← hH.out]
 go_wp2_with ((with_reducible refine wpList_storeFA 151 bW aR hge (pnc (h - 1) (2 * i)) ?_ ?_ 2 rfl ?_ ?_ ?_ ?_); rfl; rfl; kernel_rfl; rfl; rfl; intro w3 a3 b3 k3 z3)
 refine bodyPost_ret (results_cell_row rfl _ _ (H + 1) _ _ (0, 0) _ (by rfl) a3 Tryd.underlying151 rfl (by kernel_rfl)) rfl ⟨rfl, b3⟩
set_option maxRecDepth 10000 in
set_option maxHeartbeats 2000000 in
theorem PRight (n h i : Nat) (hn : n ≤ 4096) (h1 : h ≤ 12) (i1 : i ≤ 1000000) (w : World) :
  Calls Tryd.prog 68 #[.agg (pnc ((h : Int) + 1) (i : Int)).toArray, .int .i64 (n : Int)] w fun e w' => e = .returned (.tuple #[.agg (pnc (h : Int) (2 * (i : Int) + 1)).toArray, .bool (decide (2 * i + 1 < pWd n h))]) ∧ Below w.heap.size w w' := by
 unfold pnc
 have HW := Width (n : Int) (h : Int)
 rw [pWd_of n h hn h1] at HW
 obtain ⟨b, hb⟩ : ∃ b, b = decide (2 * i + 1 < pWd n h) := ⟨_, rfl⟩
 have hb2 : decide (2 * (i : Int) + 1 < (pWd n h : Int)) = b := by rw [hb]; exact decide_eq_decide.2 (by omega)
 rw [← hb]
 generalize (pWd n h : Int) = P at *
 obtain ⟨W, hW⟩ : ∃ W, W = (w.alloc (.cells [.int .i64 ((h : Int) + 1), .int .i64 (i : Int)].toArray 151)).alloc (.cells [.int .i64 0, .int .i64 0].toArray 151) := ⟨_, rfl⟩
 obtain ⟨H, hH⟩ : ∃ H, H = w.heap.size := ⟨_, rfl⟩
 have bW : Below w.heap.size w W := by rw [hW]; exact ((Below.refl _ _).alloc (Nat.le_refl _) _).alloc (by simp) _
 have aN : Av W H 151 (pnc ((h : Int) + 1) (i : Int)) := by rw [hW, hH]; exact Av.newer w (pnc ((h : Int) + 1) (i : Int)) _ _
 have aR : Av W (H + 1) 151 (pnc 0 0) := by rw [hW, hH, ← World.size_alloc w (.cells [.int .i64 ((h : Int) + 1), .int .i64 (i : Int)].toArray 151)]; exact heap_alloc_new _ _
 have sW : W.heap.size = H + 2 := by rw [hW, hH]; simp
 have hge : w.heap.size ≤ H + 1 := by rw [hH]; omega
 have c0 := aN.cell 0 _ rfl
 have c1 := aN.cell 1 _ rfl
 replace hb := Lib.hid hb
 replace hb2 := Lib.hid hb2
 replace HW := Lib.hid HW
 replace hW := Lib.hid hW
 replace hH := Lib.hid hH
 replace sW := Lib.hid sW
 go_enter Tryd.func68, Tryd.ntmps68
 go_upto_region 1 with fail
 rw [← hW.out, ← hH.out]
 go_upto_region 2 with ((with_reducible refine wpList_storeF 151 ((Below.refl W.heap.size W).alloc (Nat.le_refl _) _) (heap_alloc_new _ _) (Nat.le_refl _) (pnc (h : Int) (2 * (i : Int) + 1)) ?_ ?_ 2 rfl ?_ ?_ ?_ ?_); rfl; rfl; kernel_rfl; rfl; rfl; intro w3 a3 b3 k3 z3; clear k3; replace z3 := Lib.hid z3)
 obtain ⟨G, hG⟩ : ∃ G, G = W.heap.size := ⟨_, rfl⟩
 have hGH : G = H + 2 := by rw [hG, sW.out]
 rw [← hG] at a3 ⊢
 replace hG := Lib.hid hG
 have bw3 := bW.trans (b3.mono bW.size)
 have r3 := aR.below b3
 have hne : G ≠ H + 1 := by omega
 replace hGH := Lib.hid hGH
 clear aN aR c0 c1
 refine wp_region_relG 9 [] [(8, fun w' => Av w' (H + 1) 151 (pnc (h : Int) (2 * (i : Int) + 1)))] (RS (H + 1) 151 (pnc (h : Int) (2 * (i : Int) + 1))) (by kernel_rfl) (by kernel_rfl) (by kernel_rfl) (by kernel_rfl) (by kernel_rfl) (by kernel_rfl) (fun w => RS.refl w) RS.trans (by intro p hp; cases hp) (by
  intro p hp w w' hR h
  simp only [List.mem_singleton] at hp
  subst hp
  exact hR.2.1 h) ?_
 refine gel (fun w => RS.refl w) rfl (relPure (fun w => RS.refl w) rfl rfl rfl rfl (c := .agg (pnc (h : Int) (2 * (i : Int) + 1)).toArray) (fun w hw => exec_loadAv (l := pnc (h : Int) (2 * (i : Int) + 1)) (hw.1.av a3.drew hne) _ _ rfl rfl _ 2 rfl Tryd.underlying151 rfl (by kernel_rfl)) (by simp only [Zs]; rfl) (gend ?_))
 refine gel (fun w => RS.refl w) rfl (relPure (fun w => RS.refl w) rfl rfl rfl rfl (fun w _ => by go_simp; first | done | rfl) (by simp only [Zs]; rfl) (gend ?_))
 refine gel (fun w => RS.refl w) rfl (relPure (fun w => RS.refl w) rfl rfl rfl rfl (c := .int .i64 (2 * (i : Int) + 1)) (fun w hw => by have := (hw.1.av a3.drew hne).cell 1 _ rfl; go_simp; first | done | rfl) (by simp only [Zs]; rfl) (gend ?_))
 refine gel (fun w => RS.refl w) rfl (relMove (fun w => RS.refl w) rfl rfl rfl rfl _ (.inl rfl) (by conv => lhs; whnf) (by simp only [Zs]; rfl) (gend ?_))
 refine gel (fun w => RS.refl w) rfl (relPure (fun w => RS.refl w) rfl rfl rfl rfl (fun w _ => by go_simp; first | done | rfl) (by simp only [Zs]; rfl) (gend ?_))
 refine gel (fun w => RS.refl w) rfl (relPure (fun w => RS.refl w) rfl rfl rfl rfl (c := .int .i64 (h : Int)) (fun w hw => by have := (hw.1.av a3.drew hne).cell 0 _ rfl; go_simp; first | done | rfl) (by simp only [Zs]; rfl) (gend ?_))
 refine gel (fun w => RS.refl w) rfl (relCall1 rfl rfl rfl rfl (c := .int .i64 P) 86 #[.int .i64 (n : Int), .int .i64 (h : Int)] (fun w => by go_simp) (fun w hw => (HW.out w).mono (by rintro e w' ⟨rfl, rfl⟩; exact ⟨rfl, RS.refl _⟩)) (by simp only [Zs]; rfl) (gend ?_))
 refine gel (fun w => RS.refl w) rfl (relPure (fun w => RS.refl w) rfl rfl rfl rfl (c := .bool b) (fun w _ => by have := hb2.out; go_simp; first | done | rfl) (by simp only [Zs]; rfl) (gend ?_))
 refine gStore rfl rfl (fun w hw => exec_storeAv (C := pnc (h : Int) (2 * (i : Int) + 1)) r3.drew rfl hw _ _ _ rfl rfl rfl 2 rfl (by kernel_rfl) rfl 8) ?_
 refine relEndG fun w5 hw5 hg => ?_
 simp only [List.drop_succ_cons, List.drop_zero]
 have a5 := hg (8, fun w' => Av w' (H + 1) 151 (pnc (h : Int) (2 * (i : Int) + 1))) (List.mem_singleton.2 rfl)
 have f5 := Fr.ofDrew hw5.1
 go_wp2
 refine bodyPost_ret (v := .tuple #[.agg (pnc (h : Int) (2 * (i : Int) + 1)).toArray, .bool b]) ((results_cellU (C := pnc (h : Int) (2 * (i : Int) + 1)) (by rfl) (by rfl) a5 _ Tryd.underlying151 rfl 2 rfl (by kernel_rfl)).trans (by rfl)) (by rfl) ?_
 exact ⟨rfl, bw3.trans (f5.below (fun k hk => by omega) bw3.size)⟩
set_option maxRecDepth 10000 in
set_option maxHeartbeats 1000000 in
theorem PMay_zero (tot : Nat) (Ah : Option Addr) (nh ch : Nat) (Af : Option Addr) (nf cf : Nat) (_ : nh ≤ 1000000) (_ : nf ≤ 1000000) (_ : tot < 4294967296) (h : tot = 0) (w : World) :
  Calls Tryd.prog 37 #[.agg (trc tot Ah nh ch Af nf cf).toArray] w fun e w' => e = .returned (.bool false) ∧ Below w.heap.size w w' := by
 unfold trc
 have t1 : ((tot : Int) == 0) = true := by simp; omega
 replace h := Lib.hid h
 obtain ⟨W, hW⟩ : ∃ W, W = w.alloc (.cells [.int .u32 (tot : Int), .slice Ah nh ch, .slice Af nf cf].toArray 53) := ⟨_, rfl⟩
 obtain ⟨H, hH⟩ : ∃ H, H = w.heap.size := ⟨_, rfl⟩
 have bW : Below w.heap.size w W := by rw [hW]; exact (Below.refl _ _).alloc (Nat.le_refl _) _
 have aT : Av W H 53 (trc tot Ah nh ch Af nf cf) := by rw [hW, hH]; exact Av.new _ _ _
 have c0 := aT.cell 0 _ rfl
 have c1 := aT.cell 1 _ rfl
 have c2 := aT.cell 2 _ rfl
 replace hW := Lib.hid hW
 replace hH := Lib.hid hH
 clear aT
 go_enter Tryd.func37, Tryd.ntmps37
 go_upto_region 1 with fail
 rw [← hW.out, ← hH.out]
 go_wp2
 go_ret
 exact ⟨rfl, bW⟩
set_option maxRecDepth 10000 in
set_option maxHeartbeats 1000000 in
theorem PMay_most (tot : Nat) (Ah : Option Addr) (nh ch : Nat) (Af : Option Addr) (nf cf : Nat) (_ : nh ≤ 1000000) (_ : nf ≤ 1000000) (ht : tot < 4294967296) (h : 4096 < tot) (w : World) :
  Calls Tryd.prog 37 #[.agg (trc tot Ah nh ch Af nf cf).toArray] w fun e w' => e = .returned (.bool false) ∧ Below w.heap.size w w' := by
 unfold trc
 have t1 : ((tot : Int) == 0) = false := by simp; omega
 have t2 : decide ((4096 : Int) < (tot : Int)) = true := by simp; omega
 obtain ⟨W, hW⟩ : ∃ W, W = w.alloc (.cells [.int .u32 (tot : Int), .slice Ah nh ch, .slice Af nf cf].toArray 53) := ⟨_, rfl⟩
 obtain ⟨H, hH⟩ : ∃ H, H = w.heap.size := ⟨_, rfl⟩
 have bW : Below w.heap.size w W := by rw [hW]; exact (Below.refl _ _).alloc (Nat.le_refl _) _
 have aT : Av W H 53 (trc tot Ah nh ch Af nf cf) := by rw [hW, hH]; exact Av.new _ _ _
 have c0 := aT.cell 0 _ rfl
 have c1 := aT.cell 1 _ rfl
 have c2 := aT.cell 2 _ rfl
 replace hW := Lib.hid hW
 replace hH := Lib.hid hH
 clear aT
 go_enter Tryd.func37, Tryd.ntmps37
 go_upto_region 1 with fail
 rw [← hW.out, ← hH.out]
 go_wp2
 go_ret
 exact ⟨rfl, bW⟩
set_option maxRecDepth 10000 in
set_option maxHeartbeats 1000000 in
theorem PMay_more (tot : Nat) (Ah : Option Addr) (nh ch : Nat) (Af : Option Addr) (nf cf : Nat) (_ : nh ≤ 1000000) (_ : nf ≤ 1000000) (ht : tot < 4294967296) (h0 : tot ≠ 0) (h : tot ≤ 4096) (h2 : tot < nh) (w : World) :
  Calls Tryd.prog 37 #[.agg (trc tot Ah nh ch Af nf cf).toArray] w fun e w' => e = .returned (.bool false) ∧ Below w.heap.size w w' := by
 unfold trc
 have t1 : ((tot : Int) == 0) = false := by simp; omega
 have t2 : decide ((4096 : Int) < (tot : Int)) = false := by simp; omega
 have t3 : decide ((nh : Int) ≤ (tot : Int)) = false := by simp; omega
 replace h0 := Lib.hid h0
 obtain ⟨W, hW⟩ : ∃ W, W = w.alloc (.cells [.int .u32 (tot : Int), .slice Ah nh ch, .slice Af nf cf].toArray 53) := ⟨_, rfl⟩
 obtain ⟨H, hH⟩ : ∃ H, H = w.heap.size := ⟨_, rfl⟩
 have bW : Below w.heap.size w W := by rw [hW]; exact (Below.refl _ _).alloc (Nat.le_refl _) _
 have aT : Av W H 53 (trc tot Ah nh ch Af nf cf) := by rw [hW, hH]; exact Av.new _ _ _
 have c0 := aT.cell 0 _ rfl
 have c1 := aT.cell 1 _ rfl
 have c2 := aT.cell 2 _ rfl
 replace hW := Lib.hid hW
 replace hH := Lib.hid hH
 clear aT
 go_enter Tryd.func37, Tryd.ntmps37
 go_upto_region 1 with fail
 rw [← hW.out, ← hH.out]
 go_wp2
 go_ret
 exact ⟨rfl, bW⟩
set_option maxRecDepth 10000 in
set_option maxHeartbeats 1000000 in
theorem PMay_yes (tot : Nat) (Ah : Option Addr) (nh ch : Nat) (Af : Option Addr) (nf cf : Nat) (_ : nh ≤ 1000000) (hn2 : nf ≤ 1000000) (ht : tot < 4294967296) (h0 : tot ≠ 0) (h : tot ≤ 4096) (h2 : nh ≤ tot) (b : Bool) (hb : decide (nh ≤ 8 * nf) = b) (w : World) :
  Calls Tryd.prog 37 #[.agg (trc tot Ah nh ch Af nf cf).toArray] w fun e w' => e = .returned (.bool b) ∧ Below w.heap.size w w' := by
 unfold trc
 have t1 : ((tot : Int) == 0) = false := by simp; omega
 have t2 : decide ((4096 : Int) < (tot : Int)) = false := by simp; omega
 have t3 : decide ((nh : Int) ≤ (tot : Int)) = true := by simp; omega
 have t4 : decide ((nh : Int) ≤ 8 * (nf : Int)) = b := by rw [← hb]; exact decide_eq_decide.2 (by omega)
 replace hb := Lib.hid hb
 replace h0 := Lib.hid h0
 obtain ⟨W, hW⟩ : ∃ W, W = w.alloc (.cells [.int .u32 (tot : Int), .slice Ah nh ch, .slice Af nf cf].toArray 53) := ⟨_, rfl⟩
 obtain ⟨H, hH⟩ : ∃ H, H = w.heap.size := ⟨_, rfl⟩
 have bW : Below w.heap.size w W := by rw [hW]; exact (Below.refl _ _).alloc (Nat.le_refl _) _
 have aT : Av W H 53 (trc tot Ah nh ch Af nf cf) := by rw [hW, hH]; exact Av.new _ _ _
 have c0 := aT.cell 0 _ rfl
 have c1 := aT.cell 1 _ rfl
 have c2 := aT.cell 2 _ rfl
 replace hW := Lib.hid hW
 replace hH := Lib.hid hH
 clear aT
 go_enter Tryd.func37, Tryd.ntmps37
 go_upto_region 1 with fail
 rw [← hW.out, ← hH.out]
 go_wp2
 go_ret
 exact ⟨rfl, bW⟩
theorem PMay (hs : List (List UInt8)) (fl : List UInt8) (tot : Nat) (Ah : Option Addr) (nh ch : Nat) (Af : Option Addr) (nf cf : Nat) (hnh : hs.length = nh) (hnf : fl.length = nf) (hn1 : nh ≤ 1000000) (hn2 : nf ≤ 1000000) (ht : tot < 4294967296) (w : World) :
  Calls Tryd.prog 37 #[.agg (trc tot Ah nh ch Af nf cf).toArray] w fun e w' => e = .returned (.bool (pMay tot hs fl)) ∧ Below w.heap.size w w' := by
 unfold pMay
 rw [hnh, hnf]
 by_cases h0 : tot = 0
 ·rw [decide_eq_false (fun h => h.1 h0)]
  exact PMay_zero tot Ah nh ch Af nf cf hn1 hn2 ht h0 w
 by_cases h1 : 4096 < tot
 ·rw [decide_eq_false (by omega)]
  exact PMay_most tot Ah nh ch Af nf cf hn1 hn2 ht h1 w
 by_cases h2 : tot < nh
 ·rw [decide_eq_false (by omega)]
  exact PMay_more tot Ah nh ch Af nf cf hn1 hn2 ht h0 (by omega) h2 w
 ·exact PMay_yes tot Ah nh ch Af nf cf hn1 hn2 ht h0 (by omega) (by omega) _ (decide_eq_decide.2 (by omega)) w
set_option maxRecDepth 10000 in
set_option maxHeartbeats 2000000 in
theorem PDone_k (tot : Nat) (Ah : Option Addr) (nh ch : Nat) (Af : Option Addr) (nf cf d k R : Nat) (h : k ≠ nh) (w : World) (hA : Av w R 115 (rdc tot Ah nh ch Af nf cf d k)) :
  Calls Tryd.prog 39 #[.pointer (some ⟨R, 0, none⟩)] w fun e w' => e = .returned (.bool false) ∧ Below w.heap.size w w' := by
 unfold rdc at hA
 have t1 : ((k : Int) != (nh : Int)) = true := by simp; omega
 go_enter Tryd.func39, Tryd.ntmps39
 go_upto_region 1 with fail
 refine wp_region_rel [] Ext (by kernel_rfl) (by kernel_rfl) (by kernel_rfl) Ext.refl Ext.trans (by intro p hp; cases hp) ?_
 refine ZM ?_
 refine ZP (fun w _ => by go_simp; first | done | rfl) ?_
 refine ZP (fun w _ => by go_simp; first | done | rfl) ?_
 refine ZP (c := .int .i64 (k : Int)) (fun w hw => by have := (hA.below hw.drew).cell 4 _ rfl; go_simp; first | done | rfl) ?_
 refine ZM ?_
 refine ZP (fun w _ => by go_simp; first | done | rfl) ?_
 refine ZP (fun w _ => by go_simp; first | done | rfl) ?_
 refine ZP (fun w _ => by go_simp; first | done | rfl) ?_
 refine ZP (c := .slice Ah nh ch) (fun w hw => by have := (hA.below hw.drew).cell 1 _ rfl; go_simp; first | done | rfl) ?_
 refine ZP (fun w _ => by go_simp; first | done | rfl) ?_
 refine ZP (fun w _ => by go_simp; first | done | rfl) ?_
 refine ZM ?_
 refine ZS ?_
 refine ZS ?_
 refine ZS ?_
 refine ZS ?_
 refine ZS ?_
 refine ZS ?_
 refine ZS ?_
 refine ZS ?_
 refine ZS ?_
 refine ZS ?_
 refine ZS ?_
 refine ZS ?_
 refine ZS ?_
 refine ZK ?_
 refine relEnd fun w2 hw2 => fill_end ?_
 go_wp2
 go_ret
 exact ⟨rfl, hw2.drew⟩
set_option maxRecDepth 10000 in
set_option maxHeartbeats 2000000 in
theorem PDone_d (tot : Nat) (Ah : Option Addr) (nh ch : Nat) (Af : Option Addr) (nf cf d k R : Nat) (hd2 : d ≤ 1000000) (h : k = nh) (hq : (d + 7) / 8 ≠ nf) (w : World) (hA : Av w R 115 (rdc tot Ah nh ch Af nf cf d k)) :
  Calls Tryd.prog 39 #[.pointer (some ⟨R, 0, none⟩)] w fun e w' => e = .returned (.bool false) ∧ Below w.heap.size w w' := by
 unfold rdc at hA
 subst h
 have t1 : ((k : Int) != (k : Int)) = false := by simp
 obtain ⟨q, hqq⟩ : ∃ q, q = (d + 7) / 8 := ⟨_, rfl⟩
 have wk1 : IntKind.i64.wrap ((d : Int) + 7) = (d : Int) + 7 := by rw [IntKind.wrap_i64]; omega
 have wk2 : IntKind.i64.wrap (((d : Int) + 7).tdiv 8) = (q : Int) := by rw [Int.tdiv_eq_ediv_of_nonneg (by omega), IntKind.wrap_i64]; omega
 replace wk1 := Lib.hid wk1
 replace wk2 := Lib.hid wk2
 have t2 : ((q : Int) != (nf : Int)) = true := by simp; omega
 replace hq := Lib.hid hq
 replace hqq := Lib.hid hqq
 go_enter Tryd.func39, Tryd.ntmps39
 go_upto_region 1 with fail
 refine wp_region_rel [] Ext (by kernel_rfl) (by kernel_rfl) (by kernel_rfl) Ext.refl Ext.trans (by intro p hp; cases hp) ?_
 refine ZM ?_
 refine ZP (fun w _ => by go_simp; first | done | rfl) ?_
 refine ZP (fun w _ => by go_simp; first | done | rfl) ?_
 refine ZP (c := .int .i64 (k : Int)) (fun w hw => by have := (hA.below hw.drew).cell 4 _ rfl; go_simp; first | done | rfl) ?_
 refine ZM ?_
 refine ZP (fun w _ => by go_simp; first | done | rfl) ?_
 refine ZP (fun w _ => by go_simp; first | done | rfl) ?_
 refine ZP (fun w _ => by go_simp; first | done | rfl) ?_
 refine ZP (c := .slice Ah k ch) (fun w hw => by have := (hA.below hw.drew).cell 1 _ rfl; go_simp; first | done | rfl) ?_
 refine ZP (fun w _ => by go_simp; first | done | rfl) ?_
 refine ZP (fun w _ => by go_simp; first | done | rfl) ?_
 refine ZM ?_
 refine ZM ?_
 refine ZP (fun w _ => by go_simp; first | done | rfl) ?_
 refine ZP (fun w _ => by go_simp; first | done | rfl) ?_
 refine ZP (c := .int .i64 (d : Int)) (fun w hw => by have := (hA.below hw.drew).cell 3 _ rfl; go_simp; first | done | rfl) ?_
 refine ZP (c := .int .i64 ((d : Int) + 7)) (fun w _ => by have := wk1.out; go_simp; first | done | rfl) ?_
 refine ZP (c := .int .i64 (q : Int)) (fun w _ => by have := wk2.out; go_simp; first | done | rfl) ?_
 refine ZM ?_
 refine ZP (fun w _ => by go_simp; first | done | rfl) ?_
 refine ZP (fun w _ => by go_simp; first | done | rfl) ?_
 refine ZP (fun w _ => by go_simp; first | done | rfl) ?_
 refine ZP (c := .slice Af nf cf) (fun w hw => by have := (hA.below hw.drew).cell 2 _ rfl; go_simp; first | done | rfl) ?_
 refine ZP (fun w _ => by go_simp; first | done | rfl) ?_
 refine ZP (fun w _ => by go_simp; first | done | rfl) ?_
 refine ZK ?_
 refine relEnd fun w2 hw2 => fill_end ?_
 go_wp2
 go_ret
 exact ⟨rfl, hw2.drew⟩
theorem pRest_all {fl : List UInt8} {d j : Nat} (hj : j = (8 - d % 8) % 8) (h : ∀ i, i < j → pDig fl (d + i) ≠ some true) : pRest fl d = true := by
 unfold pRest
 rw [List.all_eq_true]
 intro i hi
 rw [List.mem_range] at hi
 simpa using h i (by omega)
theorem pRest_bad {fl : List UInt8} {d j : Nat} (hj : j < (8 - d % 8) % 8) (h : pDig fl (d + j) = some true) : pRest fl d = false := by
 unfold pRest
 rw [List.all_eq_false]
 exact ⟨j, List.mem_range.2 hj, by rw [h]; simp⟩
set_option maxRecDepth 10000 in
set_option maxHeartbeats 2000000 in
theorem PDone_yes (tot : Nat) (Ah : Option Addr) (nh ch : Nat) (Af : Option Addr) (nf cf d k R : Nat) (hd2 : d ≤ 1000000) (h : k = nh) (hq : (d + 7) / 8 = nf) (fl : List UInt8) (hnf : fl.length = nf) (w : World) (hr : Rd w Af (fl.map bv)) (hA : Av w R 115 (rdc tot Ah nh ch Af nf cf d k)) :
  Calls Tryd.prog 39 #[.pointer (some ⟨R, 0, none⟩)] w fun e w' => e = .returned (.bool (pRest fl d)) ∧ Below w.heap.size w w' := by
 unfold rdc at hA
 subst h
 have t1 : ((k : Int) != (k : Int)) = false := by simp
 obtain ⟨q, hqq⟩ : ∃ q, q = (d + 7) / 8 := ⟨_, rfl⟩
 have wk1 : IntKind.i64.wrap ((d : Int) + 7) = (d : Int) + 7 := by rw [IntKind.wrap_i64]; omega
 have wk2 : IntKind.i64.wrap (((d : Int) + 7).tdiv 8) = (q : Int) := by rw [Int.tdiv_eq_ediv_of_nonneg (by omega), IntKind.wrap_i64]; omega
 replace wk1 := Lib.hid wk1
 replace wk2 := Lib.hid wk2
 have t2 : ((q : Int) != (nf : Int)) = false := by simp; omega
 replace hqq := Lib.hid hqq
 have hq2 := hq
 replace hq := Lib.hid hq
 replace hnf := Lib.hid hnf
 go_enter Tryd.func39, Tryd.ntmps39
 go_upto_region 1 with fail
 refine wp_region_rel [] Ext (by kernel_rfl) (by kernel_rfl) (by kernel_rfl) Ext.refl Ext.trans (by intro p hp; cases hp) ?_
 refine ZM ?_
 refine ZP (fun w _ => by go_simp; first | done | rfl) ?_
 refine ZP (fun w _ => by go_simp; first | done | rfl) ?_
 refine ZP (c := .int .i64 (k : Int)) (fun w hw => by have := (hA.below hw.drew).cell 4 _ rfl; go_simp; first | done | rfl) ?_
 refine ZM ?_
 refine ZP (fun w _ => by go_simp; first | done | rfl) ?_
 refine ZP (fun w _ => by go_simp; first | done | rfl) ?_
 refine ZP (fun w _ => by go_simp; first | done | rfl) ?_
 refine ZP (c := .slice Ah k ch) (fun w hw => by have := (hA.below hw.drew).cell 1 _ rfl; go_simp; first | done | rfl) ?_
 refine ZP (fun w _ => by go_simp; first | done | rfl) ?_
 refine ZP (fun w _ => by go_simp; first | done | rfl) ?_
 refine ZM ?_
 refine ZM ?_
 refine ZP (fun w _ => by go_simp; first | done | rfl) ?_
 refine ZP (fun w _ => by go_simp; first | done | rfl) ?_
 refine ZP (c := .int .i64 (d : Int)) (fun w hw => by have := (hA.below hw.drew).cell 3 _ rfl; go_simp; first | done | rfl) ?_
 refine ZP (c := .int .i64 ((d : Int) + 7)) (fun w _ => by have := wk1.out; go_simp; first | done | rfl) ?_
 refine ZP (c := .int .i64 (q : Int)) (fun w _ => by have := wk2.out; go_simp; first | done | rfl) ?_
 refine ZM ?_
 refine ZP (fun w _ => by go_simp; first | done | rfl) ?_
 refine ZP (fun w _ => by go_simp; first | done | rfl) ?_
 refine ZP (fun w _ => by go_simp; first | done | rfl) ?_
 refine ZP (c := .slice Af nf cf) (fun w hw => by have := (hA.below hw.drew).cell 2 _ rfl; go_simp; first | done | rfl) ?_
 refine ZP (fun w _ => by go_simp; first | done | rfl) ?_
 refine ZP (fun w _ => by go_simp; first | done | rfl) ?_
 refine ZK ?_
 refine relEnd fun w2 hw2 => fill_end ?_
 have bw2 := hw2.drew
 have A2 := hA.below bw2
 have r2 := hr.below bw2
 have c2 := A2.cell 2 _ rfl
 have c3 := A2.cell 3 _ rfl
 clear hA
 replace hq2 := Lib.hid hq2
 go_wp2
 obtain ⟨jm, hjm⟩ : ∃ jm, jm = (8 - d % 8) % 8 := ⟨_, rfl⟩
 replace hjm := Lib.hid hjm
 go_loop [3] (fun v => ∃ j : Nat, j ≤ jm ∧ v = .int .i64 ((d + j : Nat) : Int) ∧ Hid (∀ i, i < j → pDig fl (d + i) ≠ some true)) (fun v => jm - ((intOf v).toNat - d))
 case atStart => exact ⟨0, by omega, rfl, Lib.hid (fun i hi => absurd hi (Nat.not_lt_zero _))⟩
 case round =>
  obtain ⟨j, hj, rfl, hall⟩ := hrel
  obtain ⟨e, he⟩ : ∃ e, e = d + j := ⟨_, rfl⟩
  obtain ⟨s, hs⟩ : ∃ s, s = e % 8 := ⟨_, rfl⟩
  have e2 : (e : Int) % 8 = (s : Int) := by omega
  have s0 : (0 : Int) ≤ (s : Int) := by omega
  have s8 : (s : Int) < 8 := by omega
  have hel : e ≤ 1000010 := by have := hjm.out; omega
  rw [← he]
  by_cases hlt : j < jm
  ·have t3 : ((s : Int) != 0) = true := by have := hjm.out; simp; omega
   obtain ⟨p, hp⟩ : ∃ p, p = e / 8 := ⟨_, rfl⟩
   have e1 : (e : Int) / 8 = (p : Int) := by omega
   have hpn : p < nf := by have := hjm.out; have := hq2.out; omega
   have hdg : pDig fl e = some ((fl.getD p 0).toNat / 2 ^ s % 2 == 1) := by rw [hp, hs]; exact pDig_get (by rw [hnf.out]; omega)
   obtain ⟨x, hx⟩ : ∃ x, x = fl.getD p 0 := ⟨_, rfl⟩
   have hg : fl[p]? = some x := by rw [hx, List.getD_eq_getElem?_getD, List.getElem?_eq_getElem (by rw [hnf.out]; exact hpn)]; rfl
   rw [← hx] at hdg
   have hxl := Cm.u8_lt x
   obtain ⟨bb, off, rfl⟩ := r2.someA (by intro h; have := congrArg List.length h; rw [List.length_map, hnf.out] at this; simp at this; omega)
   have cx : w2.cell? ⟨bb, off + p, none⟩ = some (bv x) := by
    rcases r2 with h | ⟨b', o', hA', hc⟩
    ·have := congrArg List.length h; rw [List.length_map, hnf.out] at this; simp at this; omega
    ·cases hA'
     exact hc p _ (by rw [List.getElem?_map, hg]; rfl)
   have hb0 := and_one_u8 x.toNat s hxl
   obtain ⟨b, hb⟩ : ∃ b, b = (x.toNat / 2 ^ s % 2 == 1) := ⟨_, rfl⟩
   rw [← hb] at hb0 hdg
   replace hdg := Lib.hid hdg
   replace hb := Lib.hid hb
   replace hg := Lib.hid hg
   replace hx := Lib.hid hx
   replace hp := Lib.hid hp
   replace hs := Lib.hid hs
   replace he := Lib.hid he
   cases b
   ·go_wp2
    go_round
    case rel =>
     refine ⟨j + 1, by omega, ?_, Lib.hid ?_⟩
     ·rw [he.out]; go_num
     ·intro i hi
      by_cases hij : i = j
      ·rw [hij, ← he.out, hdg.out]; simp
      ·exact hall.out i (by omega)
    case measure =>
     have := he.out
     simp [intOf]
     omega
   ·go_wp2
    go_ret
    refine ⟨?_, bw2⟩
    rw [pRest_bad (j := j) (by have := hjm.out; omega) (by rw [← he.out]; exact hdg.out)]
    rfl
  ·obtain rfl : j = jm := by omega
   have t3 : ((s : Int) != 0) = false := by have := hjm.out; simp; omega
   replace hs := Lib.hid hs
   replace he := Lib.hid he
   go_wp2
   go_ret
   refine ⟨?_, bw2⟩
   rw [pRest_all hjm.out hall.out]
   rfl
theorem PDone (hs : List (List UInt8)) (fl : List UInt8) (tot : Nat) (Ah : Option Addr) (nh ch : Nat) (Af : Option Addr) (nf cf d k R : Nat) (hnh : hs.length = nh) (hnf : fl.length = nf) (hd2 : d ≤ 1000000) (w : World) (hr : Rd w Af (fl.map bv)) (hA : Av w R 115 (rdc tot Ah nh ch Af nf cf d k)) :
  Calls Tryd.prog 39 #[.pointer (some ⟨R, 0, none⟩)] w fun e w' => e = .returned (.bool (pDone hs fl d k)) ∧ Below w.heap.size w w' := by
 unfold pDone
 rw [hnh, hnf]
 by_cases h1 : k = nh
 ·by_cases h2 : (d + 7) / 8 = nf
  ·rw [decide_eq_true ⟨h1, h2⟩, Bool.true_and]
   exact PDone_yes tot Ah nh ch Af nf cf d k R hd2 h1 h2 fl hnf w hr hA
  ·rw [decide_eq_false (fun h => h2 h.2), Bool.false_and]
   exact PDone_d tot Ah nh ch Af nf cf d k R hd2 h1 h2 w hA
 ·rw [decide_eq_false (fun h => h1 h.1), Bool.false_and]
  exact PDone_k tot Ah nh ch Af nf cf d k R h1 w hA
end Go.Proofs.YtobjgebojhjhnaaDoor
namespace Go.Proofs.YtobjgebojhjhnaaDoor
open Go.RowKit
def zs32 : List UInt8 := List.replicate 32 0
theorem zs32_len : zs32.length = 32 := rfl
def opc (f : PFr) : List Value := [.int .i64 (f.h : Int), .int .i64 (f.i : Int)] ++ ([.bool f.a.isSome] ++ (f.a.getD zs32).map bv)
def PFr.ok (f : PFr) : Prop := (∀ a, f.a = some a → a.length = 32) ∧ 1 ≤ f.h ∧ f.h ≤ 12 ∧ f.i ≤ 4096
theorem opc_len {f : PFr} (h : f.ok) : (opc f).length = 35 := by
 obtain ⟨h', i, a⟩ := f
 cases a with
 | none => rfl
 | some a => simp [opc, h.1 a rfl]
theorem opc_one (f : PFr) : ∀ u ∈ opc f, u.oneCell' = true := by
 intro u hu
 simp only [opc, List.mem_append, List.mem_cons, List.not_mem_nil, or_false] at hu
 rcases hu with (rfl | rfl) | rfl | hu
 ·rfl
 ·rfl
 ·rfl
 ·exact bv_one _ u hu
def mtc (p : Nat × List UInt8) : List Value := [.int .i64 (p.1 : Int)] ++ p.2.map bv
theorem mtc_len {p : Nat × List UInt8} (h : p.2.length = 32) : (mtc p).length = 33 := by simp [mtc, h]
theorem mtc_one (p : Nat × List UInt8) : ∀ u ∈ mtc p, u.oneCell' = true := by
 intro u hu
 simp only [mtc, List.mem_append, List.mem_singleton] at hu
 rcases hu with rfl | hu
 ·rfl
 ·exact bv_one _ u hu
def skc (sk : List PFr) : List Value := sk.flatMap opc
def mlc (l : List (Nat × List UInt8)) : List Value := l.flatMap mtc
theorem skc_len {sk : List PFr} (h : ∀ f ∈ sk, f.ok) : (skc sk).length = sk.length * 35 := flat_length opc 35 sk fun e he => opc_len (h e he)
theorem mlc_len {l : List (Nat × List UInt8)} (h : ∀ p ∈ l, p.2.length = 32) : (mlc l).length = l.length * 33 := flat_length mtc 33 l fun e he => mtc_len (h e he)
theorem skc_snoc (sk : List PFr) (f : PFr) : skc sk ++ opc f = skc (sk ++ [f]) := by simp [skc]
theorem mlc_snoc (l : List (Nat × List UInt8)) (p : Nat × List UInt8) : mlc l ++ mtc p = mlc (l ++ [p]) := by simp [mlc]
theorem infoOp : (Tryd.prog.info? 164).map (fun i => (i.size, i.bytes)) = some (35, 56) := by kernel_rfl
theorem zeroOp : (Tryd.prog.info? 164).map (fun i => (i.zero.map (·.cells.size))) = some (some 35) := by kernel_rfl
theorem infoMt : (Tryd.prog.info? 61).map (fun i => (i.size, i.bytes)) = some (33, 40) := by kernel_rfl
theorem zeroMt : (Tryd.prog.info? 61).map (fun i => (i.zero.map (·.cells.size))) = some (some 33) := by kernel_rfl
theorem own_open {w : World} {base : Nat} {e : TypeId} {size n : Nat} {v : Value} {xs : List Value} (h : w.ownsRow base e size v n xs) (hn : 0 < n) :
  ∃ g cap rest, v = .slice (some ⟨g, 0, none⟩) n cap ∧ base ≤ g ∧ n ≤ cap ∧ cap ≤ maxLen ∧ Av w g e (xs ++ rest) ∧ (xs ++ rest).length = cap * size := by
 obtain ⟨h1, h2⟩ := h
 rcases h2 with ⟨_, h0⟩ | ⟨g, cap, cur, e1, e2, e3, e4, e5, e6, e7⟩
 ·omega
 ·refine ⟨g, cap, cur.toList.drop (n * size), e1, e2, e4, e5, ?_, ?_⟩
  ·rw [← e7, List.take_append_drop]
   exact e3
  ·rw [← e7, List.take_append_drop]
   simpa using e6
theorem own_close {w : World} {base : Nat} {e : TypeId} {size n g cap : Nat} {xs rest : List Value} (hb : base ≤ g) (hc : n ≤ cap) (hm : cap ≤ maxLen) (ha : Av w g e (xs ++ rest)) (hl : (xs ++ rest).length = cap * size) (hx : xs.length = n * size) :
  w.ownsRow base e size (.slice (some ⟨g, 0, none⟩) n cap) n xs :=
 ⟨hx, .inr ⟨g, cap, (xs ++ rest).toArray, rfl, hb, ha, hc, hm, by simpa using hl, by simp [← hx]⟩⟩
theorem Av.ne {w : World} {g g' : Nat} {t t' : TypeId} {l l' : List Value} (h : Av w g t l) (h' : Av w g' t' l') (ht : t ≠ t') : g ≠ g' := by
 rintro rfl
 unfold Av at h h'
 rw [h] at h'
 injection Option.some.inj h' with _ h2
 exact ht h2
theorem own_ne {w : World} {base : Nat} {e t : TypeId} {size n g : Nat} {v : Value} {xs l : List Value} (h : w.ownsRow base e size v n xs) (ha : Av w g t l) (ht : e ≠ t) : v.ownBlock ≠ some g := by
 rcases h.2 with ⟨h1, _⟩ | ⟨g', cap, cur, e1, e2, e3, _⟩
 ·rw [h1]; simp [Value.ownBlock]
 ·rw [e1]
  intro h'
  have : g' = g := by simpa [Value.ownBlock] using h'
  subst this
  unfold Av at ha
  rw [e3] at ha
  injection Option.some.inj ha with _ h2
  exact ht h2
theorem own_ne2 {w : World} {base base' : Nat} {e e' : TypeId} {size n size' n' : Nat} {v v' : Value} {xs xs' : List Value} (h : w.ownsRow base e size v n xs) (h' : w.ownsRow base' e' size' v' n' xs') (ht : e ≠ e') : ∀ k, v'.ownBlock = some k → v.ownBlock ≠ some k := by
 intro k hk
 rcases h'.2 with ⟨h1, _⟩ | ⟨g', cap, cur, e1, e2, e3, _⟩
 ·rw [h1] at hk; simp [Value.ownBlock] at hk
 ·have : g' = k := by rw [e1] at hk; simpa [Value.ownBlock] using hk
  subst this
  rcases h.2 with ⟨h1, _⟩ | ⟨g, cap2, cur2, d1, d2, d3, _⟩
  ·rw [h1]; simp [Value.ownBlock]
  ·rw [d1]
   intro h'
   have : g = g' := by simpa [Value.ownBlock] using h'
   subst this
   rw [d3] at e3
   injection Option.some.inj e3 with _ h2
   exact ht h2
theorem Fr.app {S : Nat → Prop} {w0 w w' : World} {base : Nat} {e : TypeId} {size n : Nat} {v : Value} {xs : List Value} (h : Fr S w0 w) (ho : w.ownsRow base e size v n xs) (hb : w0.heap.size ≤ base) (hg : w.grownBy w' v.ownBlock) : Fr S w0 w' := by
 refine ⟨hg.os.trans h.os, hg.tape.trans h.tape, hg.output.trans h.output, Nat.le_trans h.size hg.size, fun k hk hs => (hg.block k (Nat.lt_of_lt_of_le hk h.size) fun e => ?_).trans (h.block k hk hs)⟩
 have := (World.ownsRow.lt ho k e.symm).1
 omega
theorem own_pop {w : World} {base : Nat} {e : TypeId} {size n c : Nat} {A : Option Addr} {xs ys : List Value} (h : w.ownsRow base e size (.slice A (n + 1) c) (n + 1) (xs ++ ys)) (hx : xs.length = n * size) : w.ownsRow base e size (.slice A n c) n xs := by
 obtain ⟨g, cap, rest, e1, e2, e3, e4, e5, e6⟩ := own_open h (by omega)
 injection e1 with a1 a2 a3
 subst a1
 subst a3
 exact own_close (rest := ys ++ rest) e2 (by omega) e4 (by rw [← List.append_assoc]; exact e5) (by rw [← List.append_assoc]; exact e6) hx
theorem eqlHw (x y : List UInt8) (hx : x.length = 32) (hy : y.length = 32) (p q : Operand) (w : World) : (do eqGuard .eql 30 p q (.agg (hcs x)) (.agg (hcs y)); binOp .eql 30 (.agg (hcs x)) (.agg (hcs y)) : Sem Value).run Tryd.prog w = .ok (.bool (x == y)) w := by
 rw [Sem.run_bind, show (eqGuard .eql 30 p q (.agg (hcs x)) (.agg (hcs y))).run Tryd.prog w = .ok () w by go_simp, Result.andThen_ok]
 exact eqlH x y hx hy w
structure RdW (tot : Nat) (Ah : Option Addr) (nh ch : Nat) (Af : Option Addr) (nf cf R G X B : Nat) (w0 w : World) (d k : Nat) (h i : Int) (v7 v8 : Value) (sk : List PFr) (l : List (Nat × List UInt8)) : Prop where
 fr : Fr (fun j => j = R) w0 w
 aR : Av w R 115 (rdc tot Ah nh ch Af nf cf d k)
 aG : Av w G 30 (zs32.map bv)
 aX : Av w X 151 (pnc h i)
 o7 : w.ownsRow B 164 35 v7 sk.length (skc sk)
 o8 : w.ownsRow B 61 33 v8 l.length (mlc l)
def pPhi (nf d : Nat) (sk : List PFr) : Nat := 3 * (8 * nf - d) + (sk.map fun f => if f.a.isSome then 1 else 2).sum
def RdPost (tot : Nat) (Ah : Option Addr) (nh ch : Nat) (Af : Option Addr) (nf cf R : Nat) (w0 : World) (ans : Option PRes) (e : Ending) (w' : World) : Prop :=
 Fr (fun j => j = R) w0 w' ∧ match ans with
 | none => e = .returned (.tuple #[.agg (hcs zs32), .slice none 0 0, .bool false]) ∧ ∃ d k, Av w' R 115 (rdc tot Ah nh ch Af nf cf d k)
 | some r => ∃ A c, e = .returned (.tuple #[.agg (hcs r.x), .slice A r.l.length c, .bool true]) ∧ r.l.length ≤ c ∧ (∀ a, A = some a → w0.heap.size ≤ a.block) ∧ Rd w' A (mlc r.l) ∧ Av w' R 115 (rdc tot Ah nh ch Af nf cf r.d r.k)
end Go.Proofs.YtobjgebojhjhnaaDoor
