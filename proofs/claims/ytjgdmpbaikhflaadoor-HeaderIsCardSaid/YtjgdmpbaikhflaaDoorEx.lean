/- target.Expand. -/
import Derived.Test.YtjgdmpbaikhflaaDoorUx
import Derived.Test.YtjgdmpbaikhflaaDoorPr10
namespace Go.Proofs.YtjgdmpbaikhflaaDoor
open Go.RowKit
/-- a comparison, known by its form -/
theorem uc_zero : uc 0 = uq4 0 0 0 0 := uc_small (by omega)
theorem u4_len (a b c d : Nat) : (uq4 a b c d).length = 4 := rfl
theorem uc_one (n : Nat) : (uc n).all (·.oneCell') = true := rfl
theorem uc_len (n : Nat) : (uc n).length = 4 := rfl
theorem eqlZ (n : Nat) (x y : Operand) (w : World) (hn : n < 115792089237316195423570985008687907853269984665640564039457584007913129639936) : (do eqGuard .eql 54 x y (.agg (uc n).toArray) (.agg (uq4 0 0 0 0).toArray); binOp .eql 54 (.agg (uc n).toArray) (.agg (uq4 0 0 0 0).toArray) : Sem Value).run Tryd.prog w = .ok (.bool (decide (n = 0))) w := by
  unfold uc
  rw [eqlUg]
  congr 2
  rw [decide_eq_decide]
  constructor
  · rintro ⟨h0, h1, h2, h3⟩
    rw [lim_sum hn, h0, h1, h2, h3]
  · rintro rfl
    exact lim_small (by omega)
set_option maxRecDepth 10000 in
set_option maxHeartbeats 2000000 in
theorem TExp_a (b : Nat) (hb : b < 4294967296) (h0 : b % 8388608 ≠ 0) (h1 : b / 8388608 % 2 = 1) (w : World) : Calls Tryd.prog 27 #[.int .u32 (b : Int)] w fun e w' => e = .returned (.tuple #[.agg (uc 0).toArray, .int .i64 7]) ∧ Below w.heap.size w w' := by
  obtain ⟨E, hE⟩ : ∃ E : Nat, E = b / 16777216 := ⟨_, rfl⟩
  obtain ⟨s, hs⟩ : ∃ s : Nat, s = b / 8388608 % 2 := ⟨_, rfl⟩
  obtain ⟨M, hM⟩ : ∃ M : Nat, M = b % 8388608 := ⟨_, rfl⟩
  rw [← hM] at h0
  have hMl : M < 8388608 := by omega
  have hEl : E < 256 := by omega
  have q1 : (b : Int) / 16777216 = (E : Int) := by omega
  have q2 : bits .and .u32 ((b : Int) / 8388608) 1 = (s : Int) := by
    have := (bits_nat .u32 32 (by decide) wraps_u32 (b / 8388608) 1 (by omega) (by omega)).1
    rw [show b / 8388608 &&& 1 = b / 8388608 % 2 from Nat.and_two_pow_sub_one_eq_mod _ 1, ← hs] at this
    simpa using this
  have q3 : bits .and .u32 (b : Int) 8388607 = (M : Int) := by
    have := (bits_nat .u32 32 (by decide) wraps_u32 b 8388607 (by omega) (by omega)).1
    rw [show b &&& 8388607 = b % 8388608 from Nat.and_two_pow_sub_one_eq_mod _ 23, ← hM] at this
    simpa using this
  have q4 : IntKind.i64.wrap (E : Int) = (E : Int) := by rw [IntKind.wrap_i64]; omega
  have q5 : IntKind.u64.wrap (M : Int) = (M : Int) := by rw [IntKind.wrap_u64]; omega
  obtain ⟨W, hW⟩ : ∃ W, W = w.alloc (.cells #[.int .u64 0, .int .u64 0, .int .u64 0, .int .u64 0] 54) := ⟨_, rfl⟩
  obtain ⟨H, hH⟩ : ∃ H, H = w.heap.size := ⟨_, rfl⟩
  have bW : Below H w W := by rw [hW, hH]; exact (Below.refl _ _).alloc (Nat.le_refl _) _
  have rW : Av W H 54 [.int .u64 0, .int .u64 0, .int .u64 0, .int .u64 0] := by rw [hW, hH]; exact heap_alloc_new _ _
  replace hW := Lib.hid hW
  replace hH := Lib.hid hH
  rw [← hs] at h1
  have t1 : ((M : Int) != 0) = true := by simp; omega
  have t2 : ((s : Int) == 1) = true := by simp; omega
  clear hE hs hM
  rw [uc_zero]
  go_enter Tryd.func27, Tryd.ntmps27
  go_upto_region 1 with fail
  rw [← hW.out, ← hH.out]
  go_wp2_with ((with_reducible refine wpList_storeFA 54 bW rW (Nat.le_refl _) (uq4 0 0 0 0) ?_ ?_ 4 ?_ ?_ ?_ ?_ ?_); rfl; rfl; rfl; kernel_rfl; rfl; rfl; intro w6 a6 b6 k6 z6; clear k6; replace z6 := Lib.hid z6)
  refine bodyPost_ret (v := .tuple #[.agg (uq4 0 0 0 0).toArray, .int .i64 7]) ((results_cellU (C := uq4 0 0 0 0) (by rfl) (by rfl) a6 _ Tryd.underlying54 rfl 4 rfl (by kernel_rfl)).trans (by rfl)) (by rfl) ?_
  exact ⟨rfl, by rw [← hH.out]; exact b6⟩
set_option maxRecDepth 10000 in
set_option maxHeartbeats 2000000 in
theorem TExp_lo_zero (b : Nat) (hb : b < 4294967296) (h0 : ¬ (b % 8388608 ≠ 0 ∧ b / 8388608 % 2 = 1)) (h2 : b / 16777216 < 3) (h3 : b % 8388608 / 2 ^ (8 * (3 - b / 16777216)) = 0) (w : World) : Calls Tryd.prog 27 #[.int .u32 (b : Int)] w fun e w' => e = .returned (.tuple #[.agg (uc 0).toArray, .int .i64 7]) ∧ Below w.heap.size w w' := by
  obtain ⟨E, hE⟩ : ∃ E : Nat, E = b / 16777216 := ⟨_, rfl⟩
  obtain ⟨s, hs⟩ : ∃ s : Nat, s = b / 8388608 % 2 := ⟨_, rfl⟩
  obtain ⟨M, hM⟩ : ∃ M : Nat, M = b % 8388608 := ⟨_, rfl⟩
  rw [← hM] at h0 h3
  have hMl : M < 8388608 := by omega
  have hEl : E < 256 := by omega
  have q1 : (b : Int) / 16777216 = (E : Int) := by omega
  have q2 : bits .and .u32 ((b : Int) / 8388608) 1 = (s : Int) := by
    have := (bits_nat .u32 32 (by decide) wraps_u32 (b / 8388608) 1 (by omega) (by omega)).1
    rw [show b / 8388608 &&& 1 = b / 8388608 % 2 from Nat.and_two_pow_sub_one_eq_mod _ 1, ← hs] at this
    simpa using this
  have q3 : bits .and .u32 (b : Int) 8388607 = (M : Int) := by
    have := (bits_nat .u32 32 (by decide) wraps_u32 b 8388607 (by omega) (by omega)).1
    rw [show b &&& 8388607 = b % 8388608 from Nat.and_two_pow_sub_one_eq_mod _ 23, ← hM] at this
    simpa using this
  have q4 : IntKind.i64.wrap (E : Int) = (E : Int) := by rw [IntKind.wrap_i64]; omega
  have q5 : IntKind.u64.wrap (M : Int) = (M : Int) := by rw [IntKind.wrap_u64]; omega
  obtain ⟨W, hW⟩ : ∃ W, W = w.alloc (.cells #[.int .u64 0, .int .u64 0, .int .u64 0, .int .u64 0] 54) := ⟨_, rfl⟩
  obtain ⟨H, hH⟩ : ∃ H, H = w.heap.size := ⟨_, rfl⟩
  have bW : Below H w W := by rw [hW, hH]; exact (Below.refl _ _).alloc (Nat.le_refl _) _
  have rW : Av W H 54 [.int .u64 0, .int .u64 0, .int .u64 0, .int .u64 0] := by rw [hW, hH]; exact heap_alloc_new _ _
  replace hW := Lib.hid hW
  replace hH := Lib.hid hH
  rw [← hs] at h0
  rw [← hE] at h2 h3
  have t4 : decide ((E : Int) < 3) = true := by simp; omega
  obtain ⟨j, hj⟩ : ∃ j : Nat, j = 8 * (3 - E) := ⟨_, rfl⟩
  rw [← hj] at h3
  have q6 : IntKind.i64.wrap (3 - (E : Int)) = 3 - (E : Int) := by rw [IntKind.wrap_i64]; omega
  have q7 : IntKind.i64.wrap (8 * (3 - (E : Int))) = (j : Int) := by rw [IntKind.wrap_i64]; omega
  have HS := UShr M j (by omega) (by omega) (by omega)
  have hv : M / 2 ^ j < 18446744073709551616 := Nat.lt_of_le_of_lt (Nat.div_le_self _ _) (by omega)
  rw [← uc_small hv] at HS
  have HZ := fun x y w => eqlZ (M / 2 ^ j) x y w (by omega)
  obtain ⟨V, hV⟩ : ∃ V, V = M / 2 ^ j := ⟨_, rfl⟩
  rw [← hV] at HS HZ h3
  rw [show decide (V = 0) = true from decide_eq_true h3] at HZ
  replace HZ := Lib.hid HZ
  have HO := UOf M (by omega)
  rw [uc_small (by omega)] at HO
  replace HS := Lib.hid HS
  replace HO := Lib.hid HO
  replace hV := Lib.hid hV
  by_cases hM0 : M = 0
  · have t1 : ((M : Int) != 0) = false := by simp; omega
    clear hE hs hM hj hM0 h0 h3
    go_enter Tryd.func27, Tryd.ntmps27
    go_upto_region 1 with fail
    rw [← hW.out, ← hH.out]
    go_upto_region 5 with (first
      | (go_at_call 41; refine (HO.out W).mono ?_; rintro e w1 ⟨rfl, b1⟩)
      | ((with_reducible refine wpList_storeF 54 ((Below.refl w1.heap.size w1).alloc (Nat.le_refl _) _) (heap_alloc_new _ _) (Nat.le_refl _) (uq4 M 0 0 0) ?_ ?_ 4 ?_ ?_ ?_ ?_ ?_); rfl; rfl; rfl; kernel_rfl; rfl; rfl; intro w2 a2 b2 k2 z2; clear k2; replace z2 := Lib.hid z2))
    obtain ⟨G, hG0⟩ : ∃ G, G = w1.heap.size := ⟨_, rfl⟩
    rw [← hG0] at a2 ⊢
    have c2 : Below H w w2 := (bW.trans (b1.mono (Nat.le_of_lt rW.lt))).trans ((b2).mono (Nat.le_trans (Nat.le_of_lt rW.lt) b1.size))
    have r2 := (rW.below b1).below b2
    have hGH : H < G := by rw [hG0]; exact Nat.lt_of_lt_of_le rW.lt b1.size
    replace hG0 := Lib.hid hG0
    have hGe : H ≤ G := Nat.le_of_lt hGH
    go_upto_region 8 with (first
      | ((with_reducible refine wpList_loadF 54 a2 ?_ _ 4 ?_ Tryd.underlying54 ?_ ?_ ?_); rfl; rfl; rfl; kernel_rfl)
      | (go_at_call 42; refine (HS.out w2).mono ?_; rintro e w3 ⟨rfl, b3⟩; have c3 := c2.trans (b3.mono (Nat.le_of_lt r2.lt)); have a3 := a2.below b3)
      | ((with_reducible refine wpList_storeFA 54 c3 a3 hGe (uc V) ?_ ?_ 4 ?_ ?_ ?_ ?_ ?_); rfl; rfl; rfl; kernel_rfl; rfl; rfl; intro w4 a4 b4 k4 z4; replace z4 := Lib.hid z4))
    have r4 : Av w4 H 54 [.int .u64 0, .int .u64 0, .int .u64 0, .int .u64 0] := (r2.below b3).same (k4 _ (Nat.ne_of_lt hGH))
    go_upto_region 9 with (first
      | ((with_reducible refine wpList_loadG 54 a4 ?_ ?_ _ 4 ?_ Tryd.underlying54 ?_ ?_ ?_); rfl; rfl; rfl; rfl; kernel_rfl)
      | ((with_reducible refine wpList_binG (op := .eql) (ty := 54) ?_ ?_ ?_ (HZ.out _ _ w4) ?_); rfl; rfl; rfl))
    go_wp2_with ((with_reducible refine wpList_storeFA 54 b4 r4 (Nat.le_refl _) (uq4 0 0 0 0) ?_ ?_ 4 ?_ ?_ ?_ ?_ ?_); rfl; rfl; rfl; kernel_rfl; rfl; rfl; intro w6 a6 b6 k6 z6; clear k6; replace z6 := Lib.hid z6)
    refine bodyPost_ret (v := .tuple #[.agg (uq4 0 0 0 0).toArray, .int .i64 7]) ((results_cellU (C := uq4 0 0 0 0) (by rfl) (by rfl) a6 _ Tryd.underlying54 rfl 4 rfl (by kernel_rfl)).trans (by rfl)) (by rfl) ?_
    exact ⟨by rw [uc_zero], by rw [← hH.out]; exact b6⟩
  · have t1 : ((M : Int) != 0) = true := by simp; omega
    have t2 : ((s : Int) == 1) = false := by simp; omega
    clear hE hs hM hj hM0 h0 h3
    go_enter Tryd.func27, Tryd.ntmps27
    go_upto_region 1 with fail
    rw [← hW.out, ← hH.out]
    go_upto_region 5 with (first
      | (go_at_call 41; refine (HO.out W).mono ?_; rintro e w1 ⟨rfl, b1⟩)
      | ((with_reducible refine wpList_storeF 54 ((Below.refl w1.heap.size w1).alloc (Nat.le_refl _) _) (heap_alloc_new _ _) (Nat.le_refl _) (uq4 M 0 0 0) ?_ ?_ 4 ?_ ?_ ?_ ?_ ?_); rfl; rfl; rfl; kernel_rfl; rfl; rfl; intro w2 a2 b2 k2 z2; clear k2; replace z2 := Lib.hid z2))
    obtain ⟨G, hG0⟩ : ∃ G, G = w1.heap.size := ⟨_, rfl⟩
    rw [← hG0] at a2 ⊢
    have c2 : Below H w w2 := (bW.trans (b1.mono (Nat.le_of_lt rW.lt))).trans ((b2).mono (Nat.le_trans (Nat.le_of_lt rW.lt) b1.size))
    have r2 := (rW.below b1).below b2
    have hGH : H < G := by rw [hG0]; exact Nat.lt_of_lt_of_le rW.lt b1.size
    replace hG0 := Lib.hid hG0
    have hGe : H ≤ G := Nat.le_of_lt hGH
    go_upto_region 8 with (first
      | ((with_reducible refine wpList_loadF 54 a2 ?_ _ 4 ?_ Tryd.underlying54 ?_ ?_ ?_); rfl; rfl; rfl; kernel_rfl)
      | (go_at_call 42; refine (HS.out w2).mono ?_; rintro e w3 ⟨rfl, b3⟩; have c3 := c2.trans (b3.mono (Nat.le_of_lt r2.lt)); have a3 := a2.below b3)
      | ((with_reducible refine wpList_storeFA 54 c3 a3 hGe (uc V) ?_ ?_ 4 ?_ ?_ ?_ ?_ ?_); rfl; rfl; rfl; kernel_rfl; rfl; rfl; intro w4 a4 b4 k4 z4; replace z4 := Lib.hid z4))
    have r4 : Av w4 H 54 [.int .u64 0, .int .u64 0, .int .u64 0, .int .u64 0] := (r2.below b3).same (k4 _ (Nat.ne_of_lt hGH))
    go_upto_region 9 with (first
      | ((with_reducible refine wpList_loadG 54 a4 ?_ ?_ _ 4 ?_ Tryd.underlying54 ?_ ?_ ?_); rfl; rfl; rfl; rfl; kernel_rfl)
      | ((with_reducible refine wpList_binG (op := .eql) (ty := 54) ?_ ?_ ?_ (HZ.out _ _ w4) ?_); rfl; rfl; rfl))
    go_wp2_with ((with_reducible refine wpList_storeFA 54 b4 r4 (Nat.le_refl _) (uq4 0 0 0 0) ?_ ?_ 4 ?_ ?_ ?_ ?_ ?_); rfl; rfl; rfl; kernel_rfl; rfl; rfl; intro w6 a6 b6 k6 z6; clear k6; replace z6 := Lib.hid z6)
    refine bodyPost_ret (v := .tuple #[.agg (uq4 0 0 0 0).toArray, .int .i64 7]) ((results_cellU (C := uq4 0 0 0 0) (by rfl) (by rfl) a6 _ Tryd.underlying54 rfl 4 rfl (by kernel_rfl)).trans (by rfl)) (by rfl) ?_
    exact ⟨by rw [uc_zero], by rw [← hH.out]; exact b6⟩
set_option maxRecDepth 10000 in
set_option maxHeartbeats 2000000 in
theorem TExp_lo_fine (b : Nat) (hb : b < 4294967296) (h0 : ¬ (b % 8388608 ≠ 0 ∧ b / 8388608 % 2 = 1)) (h2 : b / 16777216 < 3) (h3 : b % 8388608 / 2 ^ (8 * (3 - b / 16777216)) ≠ 0) (w : World) : Calls Tryd.prog 27 #[.int .u32 (b : Int)] w fun e w' => e = .returned (.tuple #[.agg (uc (b % 8388608 / 2 ^ (8 * (3 - b / 16777216)))).toArray, .int .i64 0]) ∧ Below w.heap.size w w' := by
  obtain ⟨E, hE⟩ : ∃ E : Nat, E = b / 16777216 := ⟨_, rfl⟩
  obtain ⟨s, hs⟩ : ∃ s : Nat, s = b / 8388608 % 2 := ⟨_, rfl⟩
  obtain ⟨M, hM⟩ : ∃ M : Nat, M = b % 8388608 := ⟨_, rfl⟩
  rw [← hM] at h0 h3 ⊢
  have hMl : M < 8388608 := by omega
  have hEl : E < 256 := by omega
  have q1 : (b : Int) / 16777216 = (E : Int) := by omega
  have q2 : bits .and .u32 ((b : Int) / 8388608) 1 = (s : Int) := by
    have := (bits_nat .u32 32 (by decide) wraps_u32 (b / 8388608) 1 (by omega) (by omega)).1
    rw [show b / 8388608 &&& 1 = b / 8388608 % 2 from Nat.and_two_pow_sub_one_eq_mod _ 1, ← hs] at this
    simpa using this
  have q3 : bits .and .u32 (b : Int) 8388607 = (M : Int) := by
    have := (bits_nat .u32 32 (by decide) wraps_u32 b 8388607 (by omega) (by omega)).1
    rw [show b &&& 8388607 = b % 8388608 from Nat.and_two_pow_sub_one_eq_mod _ 23, ← hM] at this
    simpa using this
  have q4 : IntKind.i64.wrap (E : Int) = (E : Int) := by rw [IntKind.wrap_i64]; omega
  have q5 : IntKind.u64.wrap (M : Int) = (M : Int) := by rw [IntKind.wrap_u64]; omega
  obtain ⟨W, hW⟩ : ∃ W, W = w.alloc (.cells #[.int .u64 0, .int .u64 0, .int .u64 0, .int .u64 0] 54) := ⟨_, rfl⟩
  obtain ⟨H, hH⟩ : ∃ H, H = w.heap.size := ⟨_, rfl⟩
  have bW : Below H w W := by rw [hW, hH]; exact (Below.refl _ _).alloc (Nat.le_refl _) _
  have rW : Av W H 54 [.int .u64 0, .int .u64 0, .int .u64 0, .int .u64 0] := by rw [hW, hH]; exact heap_alloc_new _ _
  replace hW := Lib.hid hW
  replace hH := Lib.hid hH
  rw [← hs] at h0
  rw [← hE] at h2 h3 ⊢
  have t4 : decide ((E : Int) < 3) = true := by simp; omega
  obtain ⟨j, hj⟩ : ∃ j : Nat, j = 8 * (3 - E) := ⟨_, rfl⟩
  rw [← hj] at h3 ⊢
  have q6 : IntKind.i64.wrap (3 - (E : Int)) = 3 - (E : Int) := by rw [IntKind.wrap_i64]; omega
  have q7 : IntKind.i64.wrap (8 * (3 - (E : Int))) = (j : Int) := by rw [IntKind.wrap_i64]; omega
  have HS := UShr M j (by omega) (by omega) (by omega)
  have hv : M / 2 ^ j < 18446744073709551616 := Nat.lt_of_le_of_lt (Nat.div_le_self _ _) (by omega)
  rw [← uc_small hv] at HS
  have HZ := fun x y w => eqlZ (M / 2 ^ j) x y w (by omega)
  obtain ⟨V, hV⟩ : ∃ V, V = M / 2 ^ j := ⟨_, rfl⟩
  rw [← hV] at HS HZ h3 ⊢
  rw [show decide (V = 0) = false from decide_eq_false h3] at HZ
  replace HZ := Lib.hid HZ
  have HO := UOf M (by omega)
  rw [uc_small (by omega)] at HO
  replace HS := Lib.hid HS
  replace HO := Lib.hid HO
  replace hV := Lib.hid hV
  by_cases hM0 : M = 0
  · have t1 : ((M : Int) != 0) = false := by simp; omega
    clear hE hs hM hj hM0 h0 h3
    go_enter Tryd.func27, Tryd.ntmps27
    go_upto_region 1 with fail
    rw [← hW.out, ← hH.out]
    go_upto_region 5 with (first
      | (go_at_call 41; refine (HO.out W).mono ?_; rintro e w1 ⟨rfl, b1⟩)
      | ((with_reducible refine wpList_storeF 54 ((Below.refl w1.heap.size w1).alloc (Nat.le_refl _) _) (heap_alloc_new _ _) (Nat.le_refl _) (uq4 M 0 0 0) ?_ ?_ 4 ?_ ?_ ?_ ?_ ?_); rfl; rfl; rfl; kernel_rfl; rfl; rfl; intro w2 a2 b2 k2 z2; clear k2; replace z2 := Lib.hid z2))
    obtain ⟨G, hG0⟩ : ∃ G, G = w1.heap.size := ⟨_, rfl⟩
    rw [← hG0] at a2 ⊢
    have c2 : Below H w w2 := (bW.trans (b1.mono (Nat.le_of_lt rW.lt))).trans ((b2).mono (Nat.le_trans (Nat.le_of_lt rW.lt) b1.size))
    have r2 := (rW.below b1).below b2
    have hGH : H < G := by rw [hG0]; exact Nat.lt_of_lt_of_le rW.lt b1.size
    replace hG0 := Lib.hid hG0
    have hGe : H ≤ G := Nat.le_of_lt hGH
    go_upto_region 8 with (first
      | ((with_reducible refine wpList_loadF 54 a2 ?_ _ 4 ?_ Tryd.underlying54 ?_ ?_ ?_); rfl; rfl; rfl; kernel_rfl)
      | (go_at_call 42; refine (HS.out w2).mono ?_; rintro e w3 ⟨rfl, b3⟩; have c3 := c2.trans (b3.mono (Nat.le_of_lt r2.lt)); have a3 := a2.below b3)
      | ((with_reducible refine wpList_storeFA 54 c3 a3 hGe (uc V) ?_ ?_ 4 ?_ ?_ ?_ ?_ ?_); rfl; rfl; rfl; kernel_rfl; rfl; rfl; intro w4 a4 b4 k4 z4; replace z4 := Lib.hid z4))
    have r4 : Av w4 H 54 [.int .u64 0, .int .u64 0, .int .u64 0, .int .u64 0] := (r2.below b3).same (k4 _ (Nat.ne_of_lt hGH))
    go_upto_region 10 with (first
      | ((with_reducible refine wpList_loadG 54 a4 ?_ ?_ _ 4 ?_ Tryd.underlying54 ?_ ?_ ?_); rfl; rfl; rfl; rfl; kernel_rfl)
      | ((with_reducible refine wpList_binG (op := .eql) (ty := 54) ?_ ?_ ?_ (HZ.out _ _ w4) ?_); rfl; rfl; rfl))
    go_wp2_with (first
      | ((with_reducible refine wpList_loadF 54 a4 ?_ _ 4 ?_ Tryd.underlying54 ?_ ?_ ?_); rfl; rfl; rfl; kernel_rfl)
      | ((with_reducible refine wpList_storeFA 54 b4 r4 (Nat.le_refl _) (uc V) ?_ ?_ 4 ?_ ?_ ?_ ?_ ?_); rfl; rfl; rfl; kernel_rfl; rfl; rfl; intro w6 a6 b6 k6 z6; clear k6; replace z6 := Lib.hid z6))
    refine bodyPost_ret (v := .tuple #[.agg (uc V).toArray, .int .i64 0]) ((results_cellU (C := uc V) (by rfl) (by rfl) a6 _ Tryd.underlying54 rfl 4 rfl (by kernel_rfl)).trans (by rfl)) (by rfl) ?_
    exact ⟨rfl, by rw [← hH.out]; exact b6⟩
  · have t1 : ((M : Int) != 0) = true := by simp; omega
    have t2 : ((s : Int) == 1) = false := by simp; omega
    clear hE hs hM hj hM0 h0 h3
    go_enter Tryd.func27, Tryd.ntmps27
    go_upto_region 1 with fail
    rw [← hW.out, ← hH.out]
    go_upto_region 5 with (first
      | (go_at_call 41; refine (HO.out W).mono ?_; rintro e w1 ⟨rfl, b1⟩)
      | ((with_reducible refine wpList_storeF 54 ((Below.refl w1.heap.size w1).alloc (Nat.le_refl _) _) (heap_alloc_new _ _) (Nat.le_refl _) (uq4 M 0 0 0) ?_ ?_ 4 ?_ ?_ ?_ ?_ ?_); rfl; rfl; rfl; kernel_rfl; rfl; rfl; intro w2 a2 b2 k2 z2; clear k2; replace z2 := Lib.hid z2))
    obtain ⟨G, hG0⟩ : ∃ G, G = w1.heap.size := ⟨_, rfl⟩
    rw [← hG0] at a2 ⊢
    have c2 : Below H w w2 := (bW.trans (b1.mono (Nat.le_of_lt rW.lt))).trans ((b2).mono (Nat.le_trans (Nat.le_of_lt rW.lt) b1.size))
    have r2 := (rW.below b1).below b2
    have hGH : H < G := by rw [hG0]; exact Nat.lt_of_lt_of_le rW.lt b1.size
    replace hG0 := Lib.hid hG0
    have hGe : H ≤ G := Nat.le_of_lt hGH
    go_upto_region 8 with (first
      | ((with_reducible refine wpList_loadF 54 a2 ?_ _ 4 ?_ Tryd.underlying54 ?_ ?_ ?_); rfl; rfl; rfl; kernel_rfl)
      | (go_at_call 42; refine (HS.out w2).mono ?_; rintro e w3 ⟨rfl, b3⟩; have c3 := c2.trans (b3.mono (Nat.le_of_lt r2.lt)); have a3 := a2.below b3)
      | ((with_reducible refine wpList_storeFA 54 c3 a3 hGe (uc V) ?_ ?_ 4 ?_ ?_ ?_ ?_ ?_); rfl; rfl; rfl; kernel_rfl; rfl; rfl; intro w4 a4 b4 k4 z4; replace z4 := Lib.hid z4))
    have r4 : Av w4 H 54 [.int .u64 0, .int .u64 0, .int .u64 0, .int .u64 0] := (r2.below b3).same (k4 _ (Nat.ne_of_lt hGH))
    go_upto_region 10 with (first
      | ((with_reducible refine wpList_loadG 54 a4 ?_ ?_ _ 4 ?_ Tryd.underlying54 ?_ ?_ ?_); rfl; rfl; rfl; rfl; kernel_rfl)
      | ((with_reducible refine wpList_binG (op := .eql) (ty := 54) ?_ ?_ ?_ (HZ.out _ _ w4) ?_); rfl; rfl; rfl))
    go_wp2_with (first
      | ((with_reducible refine wpList_loadF 54 a4 ?_ _ 4 ?_ Tryd.underlying54 ?_ ?_ ?_); rfl; rfl; rfl; kernel_rfl)
      | ((with_reducible refine wpList_storeFA 54 b4 r4 (Nat.le_refl _) (uc V) ?_ ?_ 4 ?_ ?_ ?_ ?_ ?_); rfl; rfl; rfl; kernel_rfl; rfl; rfl; intro w6 a6 b6 k6 z6; clear k6; replace z6 := Lib.hid z6))
    refine bodyPost_ret (v := .tuple #[.agg (uc V).toArray, .int .i64 0]) ((results_cellU (C := uc V) (by rfl) (by rfl) a6 _ Tryd.underlying54 rfl 4 rfl (by kernel_rfl)).trans (by rfl)) (by rfl) ?_
    exact ⟨rfl, by rw [← hH.out]; exact b6⟩
set_option maxRecDepth 10000 in
set_option maxHeartbeats 2000000 in
theorem TExp_hi_over (b : Nat) (hb : b < 4294967296) (h0 : ¬ (b % 8388608 ≠ 0 ∧ b / 8388608 % 2 = 1)) (h2 : 3 ≤ b / 16777216) (h3 : 115792089237316195423570985008687907853269984665640564039457584007913129639936 ≤ b % 8388608 * 2 ^ (8 * (b / 16777216 - 3))) (w : World) : Calls Tryd.prog 27 #[.int .u32 (b : Int)] w fun e w' => e = .returned (.tuple #[.agg (uc 0).toArray, .int .i64 7]) ∧ Below w.heap.size w w' := by
  obtain ⟨E, hE⟩ : ∃ E : Nat, E = b / 16777216 := ⟨_, rfl⟩
  obtain ⟨s, hs⟩ : ∃ s : Nat, s = b / 8388608 % 2 := ⟨_, rfl⟩
  obtain ⟨M, hM⟩ : ∃ M : Nat, M = b % 8388608 := ⟨_, rfl⟩
  rw [← hM] at h0 h3
  have hMl : M < 8388608 := by omega
  have hEl : E < 256 := by omega
  have q1 : (b : Int) / 16777216 = (E : Int) := by omega
  have q2 : bits .and .u32 ((b : Int) / 8388608) 1 = (s : Int) := by
    have := (bits_nat .u32 32 (by decide) wraps_u32 (b / 8388608) 1 (by omega) (by omega)).1
    rw [show b / 8388608 &&& 1 = b / 8388608 % 2 from Nat.and_two_pow_sub_one_eq_mod _ 1, ← hs] at this
    simpa using this
  have q3 : bits .and .u32 (b : Int) 8388607 = (M : Int) := by
    have := (bits_nat .u32 32 (by decide) wraps_u32 b 8388607 (by omega) (by omega)).1
    rw [show b &&& 8388607 = b % 8388608 from Nat.and_two_pow_sub_one_eq_mod _ 23, ← hM] at this
    simpa using this
  have q4 : IntKind.i64.wrap (E : Int) = (E : Int) := by rw [IntKind.wrap_i64]; omega
  have q5 : IntKind.u64.wrap (M : Int) = (M : Int) := by rw [IntKind.wrap_u64]; omega
  obtain ⟨W, hW⟩ : ∃ W, W = w.alloc (.cells #[.int .u64 0, .int .u64 0, .int .u64 0, .int .u64 0] 54) := ⟨_, rfl⟩
  obtain ⟨H, hH⟩ : ∃ H, H = w.heap.size := ⟨_, rfl⟩
  have bW : Below H w W := by rw [hW, hH]; exact (Below.refl _ _).alloc (Nat.le_refl _) _
  have rW : Av W H 54 [.int .u64 0, .int .u64 0, .int .u64 0, .int .u64 0] := by rw [hW, hH]; exact heap_alloc_new _ _
  replace hW := Lib.hid hW
  replace hH := Lib.hid hH
  rw [← hs] at h0
  rw [← hE] at h2 h3
  have t4 : decide ((E : Int) < 3) = false := by simp; omega
  obtain ⟨j, hj⟩ : ∃ j : Nat, j = 8 * (E - 3) := ⟨_, rfl⟩
  rw [← hj] at h3
  have q6 : IntKind.i64.wrap ((E : Int) - 3) = (E : Int) - 3 := by rw [IntKind.wrap_i64]; omega
  have q7 : IntKind.i64.wrap (8 * ((E : Int) - 3)) = (j : Int) := by rw [IntKind.wrap_i64]; omega
  have HS := UShl M j (by omega)
  rw [show decide (115792089237316195423570985008687907853269984665640564039457584007913129639936 ≤ M * 2 ^ j) = true from decide_eq_true h3] at HS
  obtain ⟨V, hV⟩ : ∃ V, V = M * 2 ^ j % 115792089237316195423570985008687907853269984665640564039457584007913129639936 := ⟨_, rfl⟩
  rw [← hV] at HS
  have HO := UOf M (by omega)
  rw [uc_small (by omega)] at HO
  replace HS := Lib.hid HS
  replace HO := Lib.hid HO
  replace hV := Lib.hid hV
  by_cases hM0 : M = 0
  · have t1 : ((M : Int) != 0) = false := by simp; omega
    clear hE hs hM hj hM0 h0 h3
    go_enter Tryd.func27, Tryd.ntmps27
    go_upto_region 1 with fail
    rw [← hW.out, ← hH.out]
    go_upto_region 5 with (first
      | (go_at_call 41; refine (HO.out W).mono ?_; rintro e w1 ⟨rfl, b1⟩)
      | ((with_reducible refine wpList_storeF 54 ((Below.refl w1.heap.size w1).alloc (Nat.le_refl _) _) (heap_alloc_new _ _) (Nat.le_refl _) (uq4 M 0 0 0) ?_ ?_ 4 ?_ ?_ ?_ ?_ ?_); rfl; rfl; rfl; kernel_rfl; rfl; rfl; intro w2 a2 b2 k2 z2; clear k2; replace z2 := Lib.hid z2))
    obtain ⟨G, hG0⟩ : ∃ G, G = w1.heap.size := ⟨_, rfl⟩
    rw [← hG0] at a2 ⊢
    have c2 : Below H w w2 := (bW.trans (b1.mono (Nat.le_of_lt rW.lt))).trans ((b2).mono (Nat.le_trans (Nat.le_of_lt rW.lt) b1.size))
    have r2 := (rW.below b1).below b2
    have hGH : H < G := by rw [hG0]; exact Nat.lt_of_lt_of_le rW.lt b1.size
    replace hG0 := Lib.hid hG0
    have hGe : H ≤ G := Nat.le_of_lt hGH
    go_upto_region 8 with (first
      | ((with_reducible refine wpList_loadF 54 a2 ?_ _ 4 ?_ Tryd.underlying54 ?_ ?_ ?_); rfl; rfl; rfl; kernel_rfl)
      | (go_at_call 43; refine (HS.out w2).mono ?_; rintro e w3 ⟨rfl, b3⟩; have c3 := c2.trans (b3.mono (Nat.le_of_lt r2.lt)); have a3 := a2.below b3)
      | ((with_reducible refine wpList_storeFA 54 c3 a3 hGe (uc V) ?_ ?_ 4 ?_ ?_ ?_ ?_ ?_); rfl; rfl; rfl; kernel_rfl; rfl; rfl; intro w4 a4 b4 k4 z4; replace z4 := Lib.hid z4))
    have r4 : Av w4 H 54 [.int .u64 0, .int .u64 0, .int .u64 0, .int .u64 0] := (r2.below b3).same (k4 _ (Nat.ne_of_lt hGH))
    go_wp2_with ((with_reducible refine wpList_storeFA 54 b4 r4 (Nat.le_refl _) (uq4 0 0 0 0) ?_ ?_ 4 ?_ ?_ ?_ ?_ ?_); rfl; rfl; rfl; kernel_rfl; rfl; rfl; intro w6 a6 b6 k6 z6; clear k6; replace z6 := Lib.hid z6)
    refine bodyPost_ret (v := .tuple #[.agg (uq4 0 0 0 0).toArray, .int .i64 7]) ((results_cellU (C := uq4 0 0 0 0) (by rfl) (by rfl) a6 _ Tryd.underlying54 rfl 4 rfl (by kernel_rfl)).trans (by rfl)) (by rfl) ?_
    exact ⟨by rw [uc_zero], by rw [← hH.out]; exact b6⟩
  · have t1 : ((M : Int) != 0) = true := by simp; omega
    have t2 : ((s : Int) == 1) = false := by simp; omega
    clear hE hs hM hj hM0 h0 h3
    go_enter Tryd.func27, Tryd.ntmps27
    go_upto_region 1 with fail
    rw [← hW.out, ← hH.out]
    go_upto_region 5 with (first
      | (go_at_call 41; refine (HO.out W).mono ?_; rintro e w1 ⟨rfl, b1⟩)
      | ((with_reducible refine wpList_storeF 54 ((Below.refl w1.heap.size w1).alloc (Nat.le_refl _) _) (heap_alloc_new _ _) (Nat.le_refl _) (uq4 M 0 0 0) ?_ ?_ 4 ?_ ?_ ?_ ?_ ?_); rfl; rfl; rfl; kernel_rfl; rfl; rfl; intro w2 a2 b2 k2 z2; clear k2; replace z2 := Lib.hid z2))
    obtain ⟨G, hG0⟩ : ∃ G, G = w1.heap.size := ⟨_, rfl⟩
    rw [← hG0] at a2 ⊢
    have c2 : Below H w w2 := (bW.trans (b1.mono (Nat.le_of_lt rW.lt))).trans ((b2).mono (Nat.le_trans (Nat.le_of_lt rW.lt) b1.size))
    have r2 := (rW.below b1).below b2
    have hGH : H < G := by rw [hG0]; exact Nat.lt_of_lt_of_le rW.lt b1.size
    replace hG0 := Lib.hid hG0
    have hGe : H ≤ G := Nat.le_of_lt hGH
    go_upto_region 8 with (first
      | ((with_reducible refine wpList_loadF 54 a2 ?_ _ 4 ?_ Tryd.underlying54 ?_ ?_ ?_); rfl; rfl; rfl; kernel_rfl)
      | (go_at_call 43; refine (HS.out w2).mono ?_; rintro e w3 ⟨rfl, b3⟩; have c3 := c2.trans (b3.mono (Nat.le_of_lt r2.lt)); have a3 := a2.below b3)
      | ((with_reducible refine wpList_storeFA 54 c3 a3 hGe (uc V) ?_ ?_ 4 ?_ ?_ ?_ ?_ ?_); rfl; rfl; rfl; kernel_rfl; rfl; rfl; intro w4 a4 b4 k4 z4; replace z4 := Lib.hid z4))
    have r4 : Av w4 H 54 [.int .u64 0, .int .u64 0, .int .u64 0, .int .u64 0] := (r2.below b3).same (k4 _ (Nat.ne_of_lt hGH))
    go_wp2_with ((with_reducible refine wpList_storeFA 54 b4 r4 (Nat.le_refl _) (uq4 0 0 0 0) ?_ ?_ 4 ?_ ?_ ?_ ?_ ?_); rfl; rfl; rfl; kernel_rfl; rfl; rfl; intro w6 a6 b6 k6 z6; clear k6; replace z6 := Lib.hid z6)
    refine bodyPost_ret (v := .tuple #[.agg (uq4 0 0 0 0).toArray, .int .i64 7]) ((results_cellU (C := uq4 0 0 0 0) (by rfl) (by rfl) a6 _ Tryd.underlying54 rfl 4 rfl (by kernel_rfl)).trans (by rfl)) (by rfl) ?_
    exact ⟨by rw [uc_zero], by rw [← hH.out]; exact b6⟩
set_option maxRecDepth 10000 in
set_option maxHeartbeats 2000000 in
theorem TExp_hi_zero (b : Nat) (hb : b < 4294967296) (h0 : ¬ (b % 8388608 ≠ 0 ∧ b / 8388608 % 2 = 1)) (h2 : 3 ≤ b / 16777216) (h3 : b % 8388608 * 2 ^ (8 * (b / 16777216 - 3)) < 115792089237316195423570985008687907853269984665640564039457584007913129639936) (h4 : b % 8388608 * 2 ^ (8 * (b / 16777216 - 3)) = 0) (w : World) : Calls Tryd.prog 27 #[.int .u32 (b : Int)] w fun e w' => e = .returned (.tuple #[.agg (uc 0).toArray, .int .i64 7]) ∧ Below w.heap.size w w' := by
  obtain ⟨E, hE⟩ : ∃ E : Nat, E = b / 16777216 := ⟨_, rfl⟩
  obtain ⟨s, hs⟩ : ∃ s : Nat, s = b / 8388608 % 2 := ⟨_, rfl⟩
  obtain ⟨M, hM⟩ : ∃ M : Nat, M = b % 8388608 := ⟨_, rfl⟩
  rw [← hM] at h0 h3 h4
  have hMl : M < 8388608 := by omega
  have hEl : E < 256 := by omega
  have q1 : (b : Int) / 16777216 = (E : Int) := by omega
  have q2 : bits .and .u32 ((b : Int) / 8388608) 1 = (s : Int) := by
    have := (bits_nat .u32 32 (by decide) wraps_u32 (b / 8388608) 1 (by omega) (by omega)).1
    rw [show b / 8388608 &&& 1 = b / 8388608 % 2 from Nat.and_two_pow_sub_one_eq_mod _ 1, ← hs] at this
    simpa using this
  have q3 : bits .and .u32 (b : Int) 8388607 = (M : Int) := by
    have := (bits_nat .u32 32 (by decide) wraps_u32 b 8388607 (by omega) (by omega)).1
    rw [show b &&& 8388607 = b % 8388608 from Nat.and_two_pow_sub_one_eq_mod _ 23, ← hM] at this
    simpa using this
  have q4 : IntKind.i64.wrap (E : Int) = (E : Int) := by rw [IntKind.wrap_i64]; omega
  have q5 : IntKind.u64.wrap (M : Int) = (M : Int) := by rw [IntKind.wrap_u64]; omega
  obtain ⟨W, hW⟩ : ∃ W, W = w.alloc (.cells #[.int .u64 0, .int .u64 0, .int .u64 0, .int .u64 0] 54) := ⟨_, rfl⟩
  obtain ⟨H, hH⟩ : ∃ H, H = w.heap.size := ⟨_, rfl⟩
  have bW : Below H w W := by rw [hW, hH]; exact (Below.refl _ _).alloc (Nat.le_refl _) _
  have rW : Av W H 54 [.int .u64 0, .int .u64 0, .int .u64 0, .int .u64 0] := by rw [hW, hH]; exact heap_alloc_new _ _
  replace hW := Lib.hid hW
  replace hH := Lib.hid hH
  rw [← hs] at h0
  rw [← hE] at h2 h3 h4
  have t4 : decide ((E : Int) < 3) = false := by simp; omega
  obtain ⟨j, hj⟩ : ∃ j : Nat, j = 8 * (E - 3) := ⟨_, rfl⟩
  rw [← hj] at h3 h4
  have q6 : IntKind.i64.wrap ((E : Int) - 3) = (E : Int) - 3 := by rw [IntKind.wrap_i64]; omega
  have q7 : IntKind.i64.wrap (8 * ((E : Int) - 3)) = (j : Int) := by rw [IntKind.wrap_i64]; omega
  have HS := UShl M j (by omega)
  rw [show decide (115792089237316195423570985008687907853269984665640564039457584007913129639936 ≤ M * 2 ^ j) = false from decide_eq_false (by omega), Nat.mod_eq_of_lt h3] at HS
  have HZ := fun x y w => eqlZ (M * 2 ^ j) x y w h3
  obtain ⟨V, hV⟩ : ∃ V, V = M * 2 ^ j := ⟨_, rfl⟩
  rw [← hV] at HS HZ h4
  rw [show decide (V = 0) = true from decide_eq_true h4] at HZ
  replace HZ := Lib.hid HZ
  have HO := UOf M (by omega)
  rw [uc_small (by omega)] at HO
  replace HS := Lib.hid HS
  replace HO := Lib.hid HO
  replace hV := Lib.hid hV
  by_cases hM0 : M = 0
  · have t1 : ((M : Int) != 0) = false := by simp; omega
    clear hE hs hM hj hM0 h0 h3 h4
    go_enter Tryd.func27, Tryd.ntmps27
    go_upto_region 1 with fail
    rw [← hW.out, ← hH.out]
    go_upto_region 5 with (first
      | (go_at_call 41; refine (HO.out W).mono ?_; rintro e w1 ⟨rfl, b1⟩)
      | ((with_reducible refine wpList_storeF 54 ((Below.refl w1.heap.size w1).alloc (Nat.le_refl _) _) (heap_alloc_new _ _) (Nat.le_refl _) (uq4 M 0 0 0) ?_ ?_ 4 ?_ ?_ ?_ ?_ ?_); rfl; rfl; rfl; kernel_rfl; rfl; rfl; intro w2 a2 b2 k2 z2; clear k2; replace z2 := Lib.hid z2))
    obtain ⟨G, hG0⟩ : ∃ G, G = w1.heap.size := ⟨_, rfl⟩
    rw [← hG0] at a2 ⊢
    have c2 : Below H w w2 := (bW.trans (b1.mono (Nat.le_of_lt rW.lt))).trans ((b2).mono (Nat.le_trans (Nat.le_of_lt rW.lt) b1.size))
    have r2 := (rW.below b1).below b2
    have hGH : H < G := by rw [hG0]; exact Nat.lt_of_lt_of_le rW.lt b1.size
    replace hG0 := Lib.hid hG0
    have hGe : H ≤ G := Nat.le_of_lt hGH
    go_upto_region 8 with (first
      | ((with_reducible refine wpList_loadF 54 a2 ?_ _ 4 ?_ Tryd.underlying54 ?_ ?_ ?_); rfl; rfl; rfl; kernel_rfl)
      | (go_at_call 43; refine (HS.out w2).mono ?_; rintro e w3 ⟨rfl, b3⟩; have c3 := c2.trans (b3.mono (Nat.le_of_lt r2.lt)); have a3 := a2.below b3)
      | ((with_reducible refine wpList_storeFA 54 c3 a3 hGe (uc V) ?_ ?_ 4 ?_ ?_ ?_ ?_ ?_); rfl; rfl; rfl; kernel_rfl; rfl; rfl; intro w4 a4 b4 k4 z4; replace z4 := Lib.hid z4))
    have r4 : Av w4 H 54 [.int .u64 0, .int .u64 0, .int .u64 0, .int .u64 0] := (r2.below b3).same (k4 _ (Nat.ne_of_lt hGH))
    go_upto_region 9 with (first
      | ((with_reducible refine wpList_loadG 54 a4 ?_ ?_ _ 4 ?_ Tryd.underlying54 ?_ ?_ ?_); rfl; rfl; rfl; rfl; kernel_rfl)
      | ((with_reducible refine wpList_binG (op := .eql) (ty := 54) ?_ ?_ ?_ (HZ.out _ _ w4) ?_); rfl; rfl; rfl))
    go_wp2_with ((with_reducible refine wpList_storeFA 54 b4 r4 (Nat.le_refl _) (uq4 0 0 0 0) ?_ ?_ 4 ?_ ?_ ?_ ?_ ?_); rfl; rfl; rfl; kernel_rfl; rfl; rfl; intro w6 a6 b6 k6 z6; clear k6; replace z6 := Lib.hid z6)
    refine bodyPost_ret (v := .tuple #[.agg (uq4 0 0 0 0).toArray, .int .i64 7]) ((results_cellU (C := uq4 0 0 0 0) (by rfl) (by rfl) a6 _ Tryd.underlying54 rfl 4 rfl (by kernel_rfl)).trans (by rfl)) (by rfl) ?_
    exact ⟨by rw [uc_zero], by rw [← hH.out]; exact b6⟩
  · have t1 : ((M : Int) != 0) = true := by simp; omega
    have t2 : ((s : Int) == 1) = false := by simp; omega
    clear hE hs hM hj hM0 h0 h3 h4
    go_enter Tryd.func27, Tryd.ntmps27
    go_upto_region 1 with fail
    rw [← hW.out, ← hH.out]
    go_upto_region 5 with (first
      | (go_at_call 41; refine (HO.out W).mono ?_; rintro e w1 ⟨rfl, b1⟩)
      | ((with_reducible refine wpList_storeF 54 ((Below.refl w1.heap.size w1).alloc (Nat.le_refl _) _) (heap_alloc_new _ _) (Nat.le_refl _) (uq4 M 0 0 0) ?_ ?_ 4 ?_ ?_ ?_ ?_ ?_); rfl; rfl; rfl; kernel_rfl; rfl; rfl; intro w2 a2 b2 k2 z2; clear k2; replace z2 := Lib.hid z2))
    obtain ⟨G, hG0⟩ : ∃ G, G = w1.heap.size := ⟨_, rfl⟩
    rw [← hG0] at a2 ⊢
    have c2 : Below H w w2 := (bW.trans (b1.mono (Nat.le_of_lt rW.lt))).trans ((b2).mono (Nat.le_trans (Nat.le_of_lt rW.lt) b1.size))
    have r2 := (rW.below b1).below b2
    have hGH : H < G := by rw [hG0]; exact Nat.lt_of_lt_of_le rW.lt b1.size
    replace hG0 := Lib.hid hG0
    have hGe : H ≤ G := Nat.le_of_lt hGH
    go_upto_region 8 with (first
      | ((with_reducible refine wpList_loadF 54 a2 ?_ _ 4 ?_ Tryd.underlying54 ?_ ?_ ?_); rfl; rfl; rfl; kernel_rfl)
      | (go_at_call 43; refine (HS.out w2).mono ?_; rintro e w3 ⟨rfl, b3⟩; have c3 := c2.trans (b3.mono (Nat.le_of_lt r2.lt)); have a3 := a2.below b3)
      | ((with_reducible refine wpList_storeFA 54 c3 a3 hGe (uc V) ?_ ?_ 4 ?_ ?_ ?_ ?_ ?_); rfl; rfl; rfl; kernel_rfl; rfl; rfl; intro w4 a4 b4 k4 z4; replace z4 := Lib.hid z4))
    have r4 : Av w4 H 54 [.int .u64 0, .int .u64 0, .int .u64 0, .int .u64 0] := (r2.below b3).same (k4 _ (Nat.ne_of_lt hGH))
    go_upto_region 9 with (first
      | ((with_reducible refine wpList_loadG 54 a4 ?_ ?_ _ 4 ?_ Tryd.underlying54 ?_ ?_ ?_); rfl; rfl; rfl; rfl; kernel_rfl)
      | ((with_reducible refine wpList_binG (op := .eql) (ty := 54) ?_ ?_ ?_ (HZ.out _ _ w4) ?_); rfl; rfl; rfl))
    go_wp2_with ((with_reducible refine wpList_storeFA 54 b4 r4 (Nat.le_refl _) (uq4 0 0 0 0) ?_ ?_ 4 ?_ ?_ ?_ ?_ ?_); rfl; rfl; rfl; kernel_rfl; rfl; rfl; intro w6 a6 b6 k6 z6; clear k6; replace z6 := Lib.hid z6)
    refine bodyPost_ret (v := .tuple #[.agg (uq4 0 0 0 0).toArray, .int .i64 7]) ((results_cellU (C := uq4 0 0 0 0) (by rfl) (by rfl) a6 _ Tryd.underlying54 rfl 4 rfl (by kernel_rfl)).trans (by rfl)) (by rfl) ?_
    exact ⟨by rw [uc_zero], by rw [← hH.out]; exact b6⟩
set_option maxRecDepth 10000 in
set_option maxHeartbeats 2000000 in
theorem TExp_hi_fine (b : Nat) (hb : b < 4294967296) (h0 : ¬ (b % 8388608 ≠ 0 ∧ b / 8388608 % 2 = 1)) (h2 : 3 ≤ b / 16777216) (h3 : b % 8388608 * 2 ^ (8 * (b / 16777216 - 3)) < 115792089237316195423570985008687907853269984665640564039457584007913129639936) (h4 : b % 8388608 * 2 ^ (8 * (b / 16777216 - 3)) ≠ 0) (w : World) : Calls Tryd.prog 27 #[.int .u32 (b : Int)] w fun e w' => e = .returned (.tuple #[.agg (uc (b % 8388608 * 2 ^ (8 * (b / 16777216 - 3)))).toArray, .int .i64 0]) ∧ Below w.heap.size w w' := by
  obtain ⟨E, hE⟩ : ∃ E : Nat, E = b / 16777216 := ⟨_, rfl⟩
  obtain ⟨s, hs⟩ : ∃ s : Nat, s = b / 8388608 % 2 := ⟨_, rfl⟩
  obtain ⟨M, hM⟩ : ∃ M : Nat, M = b % 8388608 := ⟨_, rfl⟩
  rw [← hM] at h0 h3 h4 ⊢
  have hMl : M < 8388608 := by omega
  have hEl : E < 256 := by omega
  have q1 : (b : Int) / 16777216 = (E : Int) := by omega
  have q2 : bits .and .u32 ((b : Int) / 8388608) 1 = (s : Int) := by
    have := (bits_nat .u32 32 (by decide) wraps_u32 (b / 8388608) 1 (by omega) (by omega)).1
    rw [show b / 8388608 &&& 1 = b / 8388608 % 2 from Nat.and_two_pow_sub_one_eq_mod _ 1, ← hs] at this
    simpa using this
  have q3 : bits .and .u32 (b : Int) 8388607 = (M : Int) := by
    have := (bits_nat .u32 32 (by decide) wraps_u32 b 8388607 (by omega) (by omega)).1
    rw [show b &&& 8388607 = b % 8388608 from Nat.and_two_pow_sub_one_eq_mod _ 23, ← hM] at this
    simpa using this
  have q4 : IntKind.i64.wrap (E : Int) = (E : Int) := by rw [IntKind.wrap_i64]; omega
  have q5 : IntKind.u64.wrap (M : Int) = (M : Int) := by rw [IntKind.wrap_u64]; omega
  obtain ⟨W, hW⟩ : ∃ W, W = w.alloc (.cells #[.int .u64 0, .int .u64 0, .int .u64 0, .int .u64 0] 54) := ⟨_, rfl⟩
  obtain ⟨H, hH⟩ : ∃ H, H = w.heap.size := ⟨_, rfl⟩
  have bW : Below H w W := by rw [hW, hH]; exact (Below.refl _ _).alloc (Nat.le_refl _) _
  have rW : Av W H 54 [.int .u64 0, .int .u64 0, .int .u64 0, .int .u64 0] := by rw [hW, hH]; exact heap_alloc_new _ _
  replace hW := Lib.hid hW
  replace hH := Lib.hid hH
  rw [← hs] at h0
  rw [← hE] at h2 h3 h4 ⊢
  have t4 : decide ((E : Int) < 3) = false := by simp; omega
  obtain ⟨j, hj⟩ : ∃ j : Nat, j = 8 * (E - 3) := ⟨_, rfl⟩
  rw [← hj] at h3 h4 ⊢
  have q6 : IntKind.i64.wrap ((E : Int) - 3) = (E : Int) - 3 := by rw [IntKind.wrap_i64]; omega
  have q7 : IntKind.i64.wrap (8 * ((E : Int) - 3)) = (j : Int) := by rw [IntKind.wrap_i64]; omega
  have HS := UShl M j (by omega)
  rw [show decide (115792089237316195423570985008687907853269984665640564039457584007913129639936 ≤ M * 2 ^ j) = false from decide_eq_false (by omega), Nat.mod_eq_of_lt h3] at HS
  have HZ := fun x y w => eqlZ (M * 2 ^ j) x y w h3
  obtain ⟨V, hV⟩ : ∃ V, V = M * 2 ^ j := ⟨_, rfl⟩
  rw [← hV] at HS HZ h4 ⊢
  rw [show decide (V = 0) = false from decide_eq_false h4] at HZ
  replace HZ := Lib.hid HZ
  have HO := UOf M (by omega)
  rw [uc_small (by omega)] at HO
  replace HS := Lib.hid HS
  replace HO := Lib.hid HO
  replace hV := Lib.hid hV
  by_cases hM0 : M = 0
  · have t1 : ((M : Int) != 0) = false := by simp; omega
    clear hE hs hM hj hM0 h0 h3 h4
    go_enter Tryd.func27, Tryd.ntmps27
    go_upto_region 1 with fail
    rw [← hW.out, ← hH.out]
    go_upto_region 5 with (first
      | (go_at_call 41; refine (HO.out W).mono ?_; rintro e w1 ⟨rfl, b1⟩)
      | ((with_reducible refine wpList_storeF 54 ((Below.refl w1.heap.size w1).alloc (Nat.le_refl _) _) (heap_alloc_new _ _) (Nat.le_refl _) (uq4 M 0 0 0) ?_ ?_ 4 ?_ ?_ ?_ ?_ ?_); rfl; rfl; rfl; kernel_rfl; rfl; rfl; intro w2 a2 b2 k2 z2; clear k2; replace z2 := Lib.hid z2))
    obtain ⟨G, hG0⟩ : ∃ G, G = w1.heap.size := ⟨_, rfl⟩
    rw [← hG0] at a2 ⊢
    have c2 : Below H w w2 := (bW.trans (b1.mono (Nat.le_of_lt rW.lt))).trans ((b2).mono (Nat.le_trans (Nat.le_of_lt rW.lt) b1.size))
    have r2 := (rW.below b1).below b2
    have hGH : H < G := by rw [hG0]; exact Nat.lt_of_lt_of_le rW.lt b1.size
    replace hG0 := Lib.hid hG0
    have hGe : H ≤ G := Nat.le_of_lt hGH
    go_upto_region 8 with (first
      | ((with_reducible refine wpList_loadF 54 a2 ?_ _ 4 ?_ Tryd.underlying54 ?_ ?_ ?_); rfl; rfl; rfl; kernel_rfl)
      | (go_at_call 43; refine (HS.out w2).mono ?_; rintro e w3 ⟨rfl, b3⟩; have c3 := c2.trans (b3.mono (Nat.le_of_lt r2.lt)); have a3 := a2.below b3)
      | ((with_reducible refine wpList_storeFA 54 c3 a3 hGe (uc V) ?_ ?_ 4 ?_ ?_ ?_ ?_ ?_); rfl; rfl; rfl; kernel_rfl; rfl; rfl; intro w4 a4 b4 k4 z4; replace z4 := Lib.hid z4))
    have r4 : Av w4 H 54 [.int .u64 0, .int .u64 0, .int .u64 0, .int .u64 0] := (r2.below b3).same (k4 _ (Nat.ne_of_lt hGH))
    go_upto_region 10 with (first
      | ((with_reducible refine wpList_loadG 54 a4 ?_ ?_ _ 4 ?_ Tryd.underlying54 ?_ ?_ ?_); rfl; rfl; rfl; rfl; kernel_rfl)
      | ((with_reducible refine wpList_binG (op := .eql) (ty := 54) ?_ ?_ ?_ (HZ.out _ _ w4) ?_); rfl; rfl; rfl))
    go_wp2_with (first
      | ((with_reducible refine wpList_loadF 54 a4 ?_ _ 4 ?_ Tryd.underlying54 ?_ ?_ ?_); rfl; rfl; rfl; kernel_rfl)
      | ((with_reducible refine wpList_storeFA 54 b4 r4 (Nat.le_refl _) (uc V) ?_ ?_ 4 ?_ ?_ ?_ ?_ ?_); rfl; rfl; rfl; kernel_rfl; rfl; rfl; intro w6 a6 b6 k6 z6; clear k6; replace z6 := Lib.hid z6))
    refine bodyPost_ret (v := .tuple #[.agg (uc V).toArray, .int .i64 0]) ((results_cellU (C := uc V) (by rfl) (by rfl) a6 _ Tryd.underlying54 rfl 4 rfl (by kernel_rfl)).trans (by rfl)) (by rfl) ?_
    exact ⟨rfl, by rw [← hH.out]; exact b6⟩
  · have t1 : ((M : Int) != 0) = true := by simp; omega
    have t2 : ((s : Int) == 1) = false := by simp; omega
    clear hE hs hM hj hM0 h0 h3 h4
    go_enter Tryd.func27, Tryd.ntmps27
    go_upto_region 1 with fail
    rw [← hW.out, ← hH.out]
    go_upto_region 5 with (first
      | (go_at_call 41; refine (HO.out W).mono ?_; rintro e w1 ⟨rfl, b1⟩)
      | ((with_reducible refine wpList_storeF 54 ((Below.refl w1.heap.size w1).alloc (Nat.le_refl _) _) (heap_alloc_new _ _) (Nat.le_refl _) (uq4 M 0 0 0) ?_ ?_ 4 ?_ ?_ ?_ ?_ ?_); rfl; rfl; rfl; kernel_rfl; rfl; rfl; intro w2 a2 b2 k2 z2; clear k2; replace z2 := Lib.hid z2))
    obtain ⟨G, hG0⟩ : ∃ G, G = w1.heap.size := ⟨_, rfl⟩
    rw [← hG0] at a2 ⊢
    have c2 : Below H w w2 := (bW.trans (b1.mono (Nat.le_of_lt rW.lt))).trans ((b2).mono (Nat.le_trans (Nat.le_of_lt rW.lt) b1.size))
    have r2 := (rW.below b1).below b2
    have hGH : H < G := by rw [hG0]; exact Nat.lt_of_lt_of_le rW.lt b1.size
    replace hG0 := Lib.hid hG0
    have hGe : H ≤ G := Nat.le_of_lt hGH
    go_upto_region 8 with (first
      | ((with_reducible refine wpList_loadF 54 a2 ?_ _ 4 ?_ Tryd.underlying54 ?_ ?_ ?_); rfl; rfl; rfl; kernel_rfl)
      | (go_at_call 43; refine (HS.out w2).mono ?_; rintro e w3 ⟨rfl, b3⟩; have c3 := c2.trans (b3.mono (Nat.le_of_lt r2.lt)); have a3 := a2.below b3)
      | ((with_reducible refine wpList_storeFA 54 c3 a3 hGe (uc V) ?_ ?_ 4 ?_ ?_ ?_ ?_ ?_); rfl; rfl; rfl; kernel_rfl; rfl; rfl; intro w4 a4 b4 k4 z4; replace z4 := Lib.hid z4))
    have r4 : Av w4 H 54 [.int .u64 0, .int .u64 0, .int .u64 0, .int .u64 0] := (r2.below b3).same (k4 _ (Nat.ne_of_lt hGH))
    go_upto_region 10 with (first
      | ((with_reducible refine wpList_loadG 54 a4 ?_ ?_ _ 4 ?_ Tryd.underlying54 ?_ ?_ ?_); rfl; rfl; rfl; rfl; kernel_rfl)
      | ((with_reducible refine wpList_binG (op := .eql) (ty := 54) ?_ ?_ ?_ (HZ.out _ _ w4) ?_); rfl; rfl; rfl))
    go_wp2_with (first
      | ((with_reducible refine wpList_loadF 54 a4 ?_ _ 4 ?_ Tryd.underlying54 ?_ ?_ ?_); rfl; rfl; rfl; kernel_rfl)
      | ((with_reducible refine wpList_storeFA 54 b4 r4 (Nat.le_refl _) (uc V) ?_ ?_ 4 ?_ ?_ ?_ ?_ ?_); rfl; rfl; rfl; kernel_rfl; rfl; rfl; intro w6 a6 b6 k6 z6; clear k6; replace z6 := Lib.hid z6))
    refine bodyPost_ret (v := .tuple #[.agg (uc V).toArray, .int .i64 0]) ((results_cellU (C := uc V) (by rfl) (by rfl) a6 _ Tryd.underlying54 rfl 4 rfl (by kernel_rfl)).trans (by rfl)) (by rfl) ?_
    exact ⟨rfl, by rw [← hH.out]; exact b6⟩
/-- what target.Expand answers -/
def expV (b : Nat) : Value := match mExp b with
  | some t => .tuple #[.agg (uc t).toArray, .int .i64 0]
  | none => .tuple #[.agg (uc 0).toArray, .int .i64 7]
theorem expV_none {b : Nat} (h : mExp b = none) : expV b = .tuple #[.agg (uc 0).toArray, .int .i64 7] := by rw [expV, h]
theorem expV_some {b t : Nat} (h : mExp b = some t) : expV b = .tuple #[.agg (uc t).toArray, .int .i64 0] := by rw [expV, h]
theorem TExp (b : Nat) (hb : b < 4294967296) (w : World) : Calls Tryd.prog 27 #[.int .u32 (b : Int)] w fun e w' => e = .returned (expV b) ∧ Below w.heap.size w w' := by
  by_cases h0 : b % 8388608 ≠ 0 ∧ b / 8388608 % 2 = 1
  · rw [expV_none (by rw [mExp, if_neg h0.1, if_pos h0.2])]
    exact TExp_a b hb h0.1 h0.2 w
  · by_cases hz : b % 8388608 = 0
    · rw [expV_none (by rw [mExp, if_pos hz])]
      by_cases h2 : b / 16777216 < 3
      · exact TExp_lo_zero b hb h0 h2 (by rw [hz]; simp) w
      · exact TExp_hi_zero b hb h0 (by omega) (by rw [hz]; simp) (by rw [hz]; simp) w
    · have hs : ¬ b / 8388608 % 2 = 1 := fun h => h0 ⟨hz, h⟩
      by_cases h2 : b / 16777216 < 3
      · by_cases h3 : b % 8388608 / 2 ^ (8 * (3 - b / 16777216)) = 0
        · rw [expV_none (by rw [mExp, if_neg hz, if_neg hs, if_pos h2, if_pos h3])]
          exact TExp_lo_zero b hb h0 h2 h3 w
        · rw [expV_some (by rw [mExp, if_neg hz, if_neg hs, if_pos h2, if_neg h3])]
          exact TExp_lo_fine b hb h0 h2 h3 w
      · by_cases h3 : 115792089237316195423570985008687907853269984665640564039457584007913129639936 ≤ b % 8388608 * 2 ^ (8 * (b / 16777216 - 3))
        · rw [expV_none (by rw [mExp, if_neg hz, if_neg hs, if_neg h2, if_pos h3])]
          exact TExp_hi_over b hb h0 (by omega) h3 w
        · rw [expV_some (by rw [mExp, if_neg hz, if_neg hs, if_neg h2, if_neg h3])]
          exact TExp_hi_fine b hb h0 (by omega) (by omega) (Nat.pos_iff_ne_zero.1 (Nat.mul_pos (by omega) (Nat.pow_pos (by omega)))) w
end Go.Proofs.YtjgdmpbaikhflaaDoor
