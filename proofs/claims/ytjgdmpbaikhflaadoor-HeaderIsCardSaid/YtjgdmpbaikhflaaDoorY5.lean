/- The reference's numbers: Of, Cmp. -/
import Derived.Test.YtjgdmpbaikhflaaDoorY4
import Derived.Test.YtjgdmpbaikhflaaDoorUc
import Derived.Test.YtjgdmpbaikhflaaDoorRul
namespace Go.Proofs.YtjgdmpbaikhflaaDoor
open Go.RowKit
set_option maxRecDepth 10000 in
set_option maxHeartbeats 1000000 in
theorem ROf (n : Nat) (h : n < 18446744073709551616) (w : World) : Calls Tryd.prog 62 #[.int .u64 (n : Int)] w fun e w' => e = .returned (.agg (uc n).toArray) ∧ Below w.heap.size w w' := by
  rw [uc_small h]
  go_enter Tryd.func62, Tryd.ntmps62
  go_wp2_with ((with_reducible refine wpList_storeF 81 ((Below.refl w.heap.size w).alloc (Nat.le_refl _) _) (heap_alloc_new _ _) (Nat.le_refl _) (uq4 n 0 0 0) ?_ ?_ 4 ?_ ?_ ?_ ?_ ?_); rfl; rfl; rfl; kernel_rfl; rfl; rfl; intro w6 a6 b6 k6 z6)
  refine bodyPost_ret (results_cell_row rfl _ _ w.heap.size _ _ (0, 0) _ (by rfl) a6 Tryd.underlying81 rfl (by kernel_rfl)) rfl ⟨rfl, b6⟩
set_option maxRecDepth 100000 in
set_option maxHeartbeats 4000000 in
theorem RCmp (a b : Nat) (ha : a < 2 ^ 256) (hb : b < 2 ^ 256) (w : World) :
    Calls Tryd.prog 51 #[.agg (uc a).toArray, .agg (uc b).toArray] w fun e w' => e = .returned (.int .i64 (cmpN a b)) ∧ Below w.heap.size w w' := by
  have C1 : a < b → cmpN a b = -1 := cmpN_lt
  have C2 : b < a → cmpN a b = 1 := cmpN_gt
  have C3 : a / 2 ^ 0 = b / 2 ^ 0 → cmpN a b = 0 := fun h => by
    rw [Nat.pow_zero, Nat.div_one, Nat.div_one] at h
    rw [h]; exact cmpN_self b
  obtain ⟨Z, hZ⟩ : ∃ Z, Z = cmpN a b := ⟨_, rfl⟩
  rw [← hZ] at C1 C2 C3 ⊢
  have h256 : a / 2 ^ 256 = b / 2 ^ 256 := by rw [Nat.div_eq_of_lt ha, Nat.div_eq_of_lt hb]
  obtain ⟨VA, hVA⟩ : ∃ V, V = uc a := ⟨_, rfl⟩
  obtain ⟨VB, hVB⟩ : ∃ V, V = uc b := ⟨_, rfl⟩
  obtain ⟨X, hX⟩ : ∃ X, X = dgC a 256 := ⟨_, rfl⟩
  obtain ⟨Y, hY⟩ : ∃ X, X = dgC b 256 := ⟨_, rfl⟩
  rw [← hVA, ← hVB]
  obtain ⟨W, hW⟩ : ∃ W, W = (w.alloc (.cells VA.toArray 81)).alloc (.cells VB.toArray 81) := ⟨_, rfl⟩
  obtain ⟨H, hH⟩ : ∃ H, H = w.heap.size := ⟨_, rfl⟩
  have bW : Below w.heap.size w W := by rw [hW]; exact ((Below.refl _ _).alloc (Nat.le_refl _) _).alloc (by simp) _
  have aA : Av W H 81 VA := by rw [hW, hH]; exact heap_alloc2_old _ _ _
  have aB : Av W (H + 1) 81 VB := by rw [hW, hH]; exact heap_alloc2_new _ _ _
  have lA : Hid (VA.length = 4) := Lib.hid (by rw [hVA]; rfl)
  have lB : Hid (VB.length = 4) := Lib.hid (by rw [hVB]; rfl)
  have lX : Hid (X.length = 256) := Lib.hid (by rw [hX]; exact dgC_len a 256)
  have oX : Hid (X.all (·.oneCell') = true) := Lib.hid (by rw [hX]; exact List.all_eq_true.2 (dgC_one a 256))
  have lY : Hid (Y.length = 256) := Lib.hid (by rw [hY]; exact dgC_len b 256)
  have oY : Hid (Y.all (·.oneCell') = true) := Lib.hid (by rw [hY]; exact List.all_eq_true.2 (dgC_one b 256))
  have zsz : Hid (Tryd.zeroCells97.size = 256) := Lib.hid (by rw [zcD_any 0, List.size_toArray, dgC_len])
  have HA := RDigits a
  have HB := RDigits b
  rw [← hX, ← hVA] at HA
  rw [← hY, ← hVB] at HB
  have cA : ∀ j, j < 256 → X[j]? = some (.int .i64 (dbit a j : Int)) := fun j h => by rw [hX, dgC_at a 256 j h, if_pos h]
  have cB : ∀ j, j < 256 → Y[j]? = some (.int .i64 (dbit b j : Int)) := fun j h => by rw [hY, dgC_at b 256 j h, if_pos h]
  replace HA := Lib.hid HA
  replace HB := Lib.hid HB
  replace hZ := Lib.hid hZ
  replace hX := Lib.hid hX
  replace hY := Lib.hid hY
  replace hVA := Lib.hid hVA
  replace hVB := Lib.hid hVB
  replace hW := Lib.hid hW
  replace hH := Lib.hid hH
  replace C1 := Lib.hid C1
  replace C2 := Lib.hid C2
  replace C3 := Lib.hid C3
  replace cA := Lib.hid cA
  replace cB := Lib.hid cB
  replace h256 := Lib.hid h256
  clear ha hb
  go_enter Tryd.func51, Tryd.ntmps51
  go_upto_region 1 with fail
  rw [← hW.out, ← hH.out]
  go_upto_region 2 with (first
    | ((with_reducible refine wpList_loadF 81 aA ?_ _ 4 lA.out Tryd.underlying81 ?_ ?_ ?_); rfl; rfl; kernel_rfl)
    | (go_at_call 65; refine (HA.out _).mono ?_; rintro e w1 ⟨rfl, bp1⟩)
    | ((with_reducible refine wpList_storeF 97 ((Below.refl w1.heap.size w1).alloc (Nat.le_refl _) _) (heap_alloc_new _ _) (Nat.le_refl _) X ?_ ?_ 256 lX.out ?_ zsz.out oX.out ?_); rfl; rfl; kernel_rfl; intro w2 a5 bp2 k2 z2; clear k2 z2))
  have bp := bp1.trans (bp2.mono bp1.size)
  have bw2 := bW.trans (bp.mono bW.size)
  have aB2 := aB.below bp
  obtain ⟨g5, hg5⟩ : ∃ g, g = w1.heap.size := ⟨_, rfl⟩
  rw [← hg5] at a5 ⊢
  replace hg5 := Lib.hid hg5
  clear bp1 bp2 bp bW aA aB
  go_upto_region 3 with (first
    | ((with_reducible refine wpList_loadF 81 aB2 ?_ _ 4 lB.out Tryd.underlying81 ?_ ?_ ?_); rfl; rfl; kernel_rfl)
    | (go_at_call 65; refine (HB.out _).mono ?_; rintro e w3 ⟨rfl, bq1⟩)
    | ((with_reducible refine wpList_storeF 97 ((Below.refl w3.heap.size w3).alloc (Nat.le_refl _) _) (heap_alloc_new _ _) (Nat.le_refl _) Y ?_ ?_ 256 lY.out ?_ zsz.out oY.out ?_); rfl; rfl; kernel_rfl; intro w4 a6 bq2 k2 z2; clear k2 z2))
  have bq := bq1.trans (bq2.mono bq1.size)
  have bw4 := bw2.trans (bq.mono bw2.size)
  have a54 := a5.below bq
  obtain ⟨g6, hg6⟩ : ∃ g, g = w3.heap.size := ⟨_, rfl⟩
  rw [← hg6] at a6 ⊢
  replace hg6 := Lib.hid hg6
  clear bq1 bq2 bq bw2 a5 aB2
  go_upto_region 4 with fail
  go_loopw [7] (fun iv wr => ∃ (k : Nat) (z : Int), k ≤ 256 ∧ iv = .int .i64 z ∧ z = (k : Int) - 1 ∧ Hid (a / 2 ^ k = b / 2 ^ k) ∧ Below w.heap.size w wr ∧ Av wr g5 97 X ∧ Av wr g6 97 Y) (fun iv _ => (intOf iv + 1).toNat)
  case atStart => exact ⟨256, 255, by omega, rfl, by omega, h256, bw4, a54, a6⟩
  case round =>
    clear bw4 a54 a6 h256
    obtain ⟨k, z, hk, rfl, hz, hs, bw, a5, a6⟩ := hrel
    by_cases hk0 : k = 0
    · subst hk0
      obtain rfl : z = -1 := by omega
      have hZ0 := C3.out hs.out
      replace hZ0 := Lib.hid hZ0
      clear hz
      go_wp2
      go_ret
      exact ⟨by rw [hZ0.out]; rfl, bw⟩
    · obtain ⟨j, rfl⟩ : ∃ j, k = j + 1 := ⟨k - 1, by omega⟩
      obtain rfl : z = (j : Int) := by omega
      have t1 : decide ((0 : Int) ≤ (j : Int)) = true := by simp
      have j0 : (0 : Int) ≤ (j : Int) := by omega
      have j1 : (j : Int) < 256 := by omega
      have c5 := cA.out j (by omega)
      have c6 := cB.out j (by omega)
      obtain ⟨y1, y2⟩ := cmp_digit a b j hs.out
      obtain ⟨_, y3⟩ := cmp_digit b a j hs.out.symm
      obtain ⟨d1, hd1⟩ : ∃ d, d = dbit a j := ⟨_, rfl⟩
      obtain ⟨d2, hd2⟩ : ∃ d, d = dbit b j := ⟨_, rfl⟩
      rw [← hd1] at c5 y1 y2 y3
      rw [← hd2] at c6 y1 y2 y3
      replace c5 := Lib.hid c5
      replace c6 := Lib.hid c6
      replace hd1 := Lib.hid hd1
      replace hd2 := Lib.hid hd2
      clear hz hs
      go_upto_region 6 with fail
      by_cases hlt : d1 < d2
      · have hZ0 := Lib.hid (C1.out (y2 hlt))
        have tt : decide ((d1 : Int) < (d2 : Int)) = true := by simp; omega
        have tt2 : decide (d1 < d2) = true := by simpa using hlt
        clear y1 y2 y3
        refine wp_region_rel [] Ext (by kernel_rfl) (by kernel_rfl) (by kernel_rfl) Ext.refl Ext.trans (by intro p hp; cases hp) ?_
        refine relMove Ext.refl rfl rfl rfl rfl _ (.inl rfl) (by conv => lhs; whnf) (by simp only [List.set_cons_succ, List.set_cons_zero]; rfl) ?_
        refine relPure Ext.refl rfl rfl rfl rfl (c := .pointer (some ⟨g5, j, none⟩)) (fun w _ => by have := j0; have := j1; go_simp; first | done | rfl) (by simp only [List.set_cons_succ, List.set_cons_zero]; rfl) ?_
        refine relPure Ext.refl rfl rfl rfl rfl (c := .int .i64 (d1 : Int)) (fun w hw => by have := (a5.below hw.drew).cell j _ c5.out; go_simp; first | done | rfl) (by simp only [List.set_cons_succ, List.set_cons_zero]; rfl) ?_
        refine relMove Ext.refl rfl rfl rfl rfl _ (.inl rfl) (by conv => lhs; whnf) (by simp only [List.set_cons_succ, List.set_cons_zero]; rfl) ?_
        refine relPure Ext.refl rfl rfl rfl rfl (c := .pointer (some ⟨g6, j, none⟩)) (fun w _ => by have := j0; have := j1; go_simp; first | done | rfl) (by simp only [List.set_cons_succ, List.set_cons_zero]; rfl) ?_
        refine relPure Ext.refl rfl rfl rfl rfl (c := .int .i64 (d2 : Int)) (fun w hw => by have := (a6.below hw.drew).cell j _ c6.out; go_simp; first | done | rfl) (by simp only [List.set_cons_succ, List.set_cons_zero]; rfl) ?_
        refine relPure Ext.refl rfl rfl rfl rfl (c := .bool true) (fun w _ => by have := tt; have := tt2; go_simp; first | done | rfl) (by simp only [List.set_cons_succ, List.set_cons_zero]; rfl) ?_
        refine relEnd fun w6 hw6 => fill_end ?_
        have b6 := bw.trans (hw6.drew.mono bw.size)
        clear tt tt2 hw6
        go_wp2
        go_ret
        exact ⟨by rw [hZ0.out]; rfl, b6⟩
      · have tt : decide ((d1 : Int) < (d2 : Int)) = false := by simp; omega
        have tt2 : decide (d1 < d2) = false := by simpa using hlt
        refine wp_region_rel [] Ext (by kernel_rfl) (by kernel_rfl) (by kernel_rfl) Ext.refl Ext.trans (by intro p hp; cases hp) ?_
        refine relMove Ext.refl rfl rfl rfl rfl _ (.inl rfl) (by conv => lhs; whnf) (by simp only [List.set_cons_succ, List.set_cons_zero]; rfl) ?_
        refine relPure Ext.refl rfl rfl rfl rfl (c := .pointer (some ⟨g5, j, none⟩)) (fun w _ => by have := j0; have := j1; go_simp; first | done | rfl) (by simp only [List.set_cons_succ, List.set_cons_zero]; rfl) ?_
        refine relPure Ext.refl rfl rfl rfl rfl (c := .int .i64 (d1 : Int)) (fun w hw => by have := (a5.below hw.drew).cell j _ c5.out; go_simp; first | done | rfl) (by simp only [List.set_cons_succ, List.set_cons_zero]; rfl) ?_
        refine relMove Ext.refl rfl rfl rfl rfl _ (.inl rfl) (by conv => lhs; whnf) (by simp only [List.set_cons_succ, List.set_cons_zero]; rfl) ?_
        refine relPure Ext.refl rfl rfl rfl rfl (c := .pointer (some ⟨g6, j, none⟩)) (fun w _ => by have := j0; have := j1; go_simp; first | done | rfl) (by simp only [List.set_cons_succ, List.set_cons_zero]; rfl) ?_
        refine relPure Ext.refl rfl rfl rfl rfl (c := .int .i64 (d2 : Int)) (fun w hw => by have := (a6.below hw.drew).cell j _ c6.out; go_simp; first | done | rfl) (by simp only [List.set_cons_succ, List.set_cons_zero]; rfl) ?_
        refine relPure Ext.refl rfl rfl rfl rfl (c := .bool false) (fun w _ => by have := tt; have := tt2; go_simp; first | done | rfl) (by simp only [List.set_cons_succ, List.set_cons_zero]; rfl) ?_
        refine relEnd fun w6 hw6 => fill_end ?_
        replace bw := bw.trans (hw6.drew.mono bw.size)
        replace a5 := a5.below hw6.drew
        replace a6 := a6.below hw6.drew
        clear tt tt2 hw6
        go_upto_region 8 with fail
        by_cases hgt : d2 < d1
        · have hZ0 := Lib.hid (C2.out (y3 hgt))
          have tt : decide ((d2 : Int) < (d1 : Int)) = true := by simp; omega
          have tt2 : decide (d2 < d1) = true := by simpa using hgt
          clear y1 y2 y3
          refine wp_region_rel [] Ext (by kernel_rfl) (by kernel_rfl) (by kernel_rfl) Ext.refl Ext.trans (by intro p hp; cases hp) ?_
          refine relMove Ext.refl rfl rfl rfl rfl _ (.inl rfl) (by conv => lhs; whnf) (by simp only [List.set_cons_succ, List.set_cons_zero]; rfl) ?_
          refine relPure Ext.refl rfl rfl rfl rfl (c := .pointer (some ⟨g5, j, none⟩)) (fun w _ => by have := j0; have := j1; go_simp; first | done | rfl) (by simp only [List.set_cons_succ, List.set_cons_zero]; rfl) ?_
          refine relPure Ext.refl rfl rfl rfl rfl (c := .int .i64 (d1 : Int)) (fun w hw => by have := (a5.below hw.drew).cell j _ c5.out; go_simp; first | done | rfl) (by simp only [List.set_cons_succ, List.set_cons_zero]; rfl) ?_
          refine relMove Ext.refl rfl rfl rfl rfl _ (.inl rfl) (by conv => lhs; whnf) (by simp only [List.set_cons_succ, List.set_cons_zero]; rfl) ?_
          refine relPure Ext.refl rfl rfl rfl rfl (c := .pointer (some ⟨g6, j, none⟩)) (fun w _ => by have := j0; have := j1; go_simp; first | done | rfl) (by simp only [List.set_cons_succ, List.set_cons_zero]; rfl) ?_
          refine relPure Ext.refl rfl rfl rfl rfl (c := .int .i64 (d2 : Int)) (fun w hw => by have := (a6.below hw.drew).cell j _ c6.out; go_simp; first | done | rfl) (by simp only [List.set_cons_succ, List.set_cons_zero]; rfl) ?_
          refine relPure Ext.refl rfl rfl rfl rfl (c := .bool true) (fun w _ => by have := tt; have := tt2; go_simp; first | done | rfl) (by simp only [List.set_cons_succ, List.set_cons_zero]; rfl) ?_
          refine relEnd fun w8 hw8 => fill_end ?_
          have b8 := bw.trans (hw8.drew.mono bw.size)
          clear tt tt2 hw8
          go_wp2
          go_ret
          exact ⟨by rw [hZ0.out]; rfl, b8⟩
        · have tt : decide ((d2 : Int) < (d1 : Int)) = false := by simp; omega
          have tt2 : decide (d2 < d1) = false := by simpa using hgt
          have hq := Lib.hid (y1 (by omega))
          clear y1 y2 y3
          refine wp_region_rel [] Ext (by kernel_rfl) (by kernel_rfl) (by kernel_rfl) Ext.refl Ext.trans (by intro p hp; cases hp) ?_
          refine relMove Ext.refl rfl rfl rfl rfl _ (.inl rfl) (by conv => lhs; whnf) (by simp only [List.set_cons_succ, List.set_cons_zero]; rfl) ?_
          refine relPure Ext.refl rfl rfl rfl rfl (c := .pointer (some ⟨g5, j, none⟩)) (fun w _ => by have := j0; have := j1; go_simp; first | done | rfl) (by simp only [List.set_cons_succ, List.set_cons_zero]; rfl) ?_
          refine relPure Ext.refl rfl rfl rfl rfl (c := .int .i64 (d1 : Int)) (fun w hw => by have := (a5.below hw.drew).cell j _ c5.out; go_simp; first | done | rfl) (by simp only [List.set_cons_succ, List.set_cons_zero]; rfl) ?_
          refine relMove Ext.refl rfl rfl rfl rfl _ (.inl rfl) (by conv => lhs; whnf) (by simp only [List.set_cons_succ, List.set_cons_zero]; rfl) ?_
          refine relPure Ext.refl rfl rfl rfl rfl (c := .pointer (some ⟨g6, j, none⟩)) (fun w _ => by have := j0; have := j1; go_simp; first | done | rfl) (by simp only [List.set_cons_succ, List.set_cons_zero]; rfl) ?_
          refine relPure Ext.refl rfl rfl rfl rfl (c := .int .i64 (d2 : Int)) (fun w hw => by have := (a6.below hw.drew).cell j _ c6.out; go_simp; first | done | rfl) (by simp only [List.set_cons_succ, List.set_cons_zero]; rfl) ?_
          refine relPure Ext.refl rfl rfl rfl rfl (c := .bool false) (fun w _ => by have := tt; have := tt2; go_simp; first | done | rfl) (by simp only [List.set_cons_succ, List.set_cons_zero]; rfl) ?_
          refine relEnd fun w8 hw8 => fill_end ?_
          replace bw := bw.trans (hw8.drew.mono bw.size)
          replace a5 := a5.below hw8.drew
          replace a6 := a6.below hw8.drew
          have e9 : IntKind.i64.wrap ((j : Int) - 1) = (j : Int) - 1 := by rw [IntKind.wrap_i64]; omega
          clear tt tt2 hw8
          go_wp2
          refine ⟨⟨j, (j : Int) - 1, by omega, rfl, rfl, hq, bw, a5, a6⟩, ?_⟩
          simp [intOf]
end Go.Proofs.YtjgdmpbaikhflaaDoor
