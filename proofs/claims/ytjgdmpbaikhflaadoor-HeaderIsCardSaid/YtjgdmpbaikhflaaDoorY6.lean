/- The reference's Expand. -/
import Derived.Test.YtjgdmpbaikhflaaDoorY5
import Derived.Test.YtjgdmpbaikhflaaDoorUl
import Derived.Test.YtjgdmpbaikhflaaDoorEx
namespace Go.Proofs.YtjgdmpbaikhflaaDoor
open Go.RowKit
set_option maxRecDepth 100000 in
theorem eqInR (a b c d a' b' c' d' : Nat) (w : World) : (Op.equalIn 10000 81 (.agg (uq4 a b c d).toArray) (.agg (uq4 a' b' c' d').toArray)).run Tryd.prog w = .ok (decide (a = a' ∧ b = b' ∧ c = c' ∧ d = d')) w := by
  have h := run_equalIn_ints w 9998 81 52 4 .u64 Tryd.underlying81 Tryd.underlying52 sizeOf_u64 [(a : Int), b, c, d] [(a' : Int), b', c', d'] rfl rfl
  refine h.trans ?_
  congr 1
  rw [Bool.eq_iff_iff]
  simp
  omega
theorem eqlR (a b c d a' b' c' d' : Nat) (w : World) : (binOp .eql 81 (.agg (uq4 a b c d).toArray) (.agg (uq4 a' b' c' d').toArray)).run Tryd.prog w = .ok (.bool (decide (a = a' ∧ b = b' ∧ c = c' ∧ d = d'))) w := by
  rw [run_eql_struct, eqInR]
  rfl
theorem eqlRg (a b c d a' b' c' d' : Nat) (x y : Operand) (w : World) : (do eqGuard .eql 81 x y (.agg (uq4 a b c d).toArray) (.agg (uq4 a' b' c' d').toArray); binOp .eql 81 (.agg (uq4 a b c d).toArray) (.agg (uq4 a' b' c' d').toArray) : Sem Value).run Tryd.prog w = .ok (.bool (decide (a = a' ∧ b = b' ∧ c = c' ∧ d = d'))) w := by
  rw [Sem.run_bind, show (eqGuard .eql 81 x y (.agg (uq4 a b c d).toArray) (.agg (uq4 a' b' c' d').toArray)).run Tryd.prog w = .ok () w by go_simp, Result.andThen_ok, eqlR]
theorem eqlRz (n : Nat) (x y : Operand) (w : World) (hn : n < 115792089237316195423570985008687907853269984665640564039457584007913129639936) : (do eqGuard .eql 81 x y (.agg (uc n).toArray) (.agg (uq4 0 0 0 0).toArray); binOp .eql 81 (.agg (uc n).toArray) (.agg (uq4 0 0 0 0).toArray) : Sem Value).run Tryd.prog w = .ok (.bool (decide (n = 0))) w := by
  unfold uc
  rw [eqlRg]
  congr 2
  rw [decide_eq_decide]
  constructor
  · rintro ⟨h0, h1, h2, h3⟩
    rw [lim_sum hn, h0, h1, h2, h3]
  · rintro rfl
    exact lim_small (by omega)
theorem and_powR (b k : Nat) : b &&& 2 ^ k = b / 2 ^ k % 2 * 2 ^ k := by
  apply Nat.eq_of_testBit_eq
  intro i
  rw [Nat.testBit_and, Nat.testBit_two_pow]
  have e := Nat.testBit_eq_decide_div_mod_eq (x := b) (i := k)
  rcases Nat.mod_two_eq_zero_or_one (b / 2 ^ k) with h | h
  · rw [h, Nat.zero_mul, Nat.zero_testBit]
    rw [h] at e
    by_cases hk : k = i
    · subst hk; simp [e]
    · simp [hk]
  · rw [h, Nat.one_mul, Nat.testBit_two_pow]
    rw [h] at e
    by_cases hk : k = i
    · subst hk; simp [e]
    · simp [hk]
def expR (T : Nat) (lost : Bool) (s : Nat) : Value := if T = 0 ∨ lost = true ∨ s = 1 then .tuple #[.agg (uc 0).toArray, .int .i64 7] else .tuple #[.agg (uc T).toArray, .int .i64 0]
set_option maxRecDepth 100000 in
set_option maxHeartbeats 4000000 in
theorem RExp_lo (b : Nat) (hb : b < 4294967296) (h2 : b / 16777216 ≤ 3) (w : World) :
    Calls Tryd.prog 50 #[.int .u32 (b : Int)] w fun e w' => e = .returned (expR (b % 8388608 / 2 ^ (8 * (3 - b / 16777216)) % 2 ^ 256) false (b / 8388608 % 2)) ∧ Below w.heap.size w w' := by
  obtain ⟨E, hE⟩ : ∃ E : Nat, E = b / 16777216 := ⟨_, rfl⟩
  obtain ⟨s, hs⟩ : ∃ s : Nat, s = b / 8388608 % 2 := ⟨_, rfl⟩
  obtain ⟨M, hM⟩ : ∃ M : Nat, M = b % 8388608 := ⟨_, rfl⟩
  rw [← hE] at h2
  have hMl : M < 8388608 := by omega
  have q1 : (b : Int) / 16777216 = (E : Int) := by omega
  have q3 : bits .and .u32 (b : Int) 8388607 = (M : Int) := by
    have := (bits_nat .u32 32 (by decide) wraps_u32 b 8388607 (by omega) (by omega)).1
    rw [show b &&& 8388607 = b % 8388608 from Nat.and_two_pow_sub_one_eq_mod _ 23, ← hM] at this
    simpa using this
  have q4 : IntKind.i64.wrap (E : Int) = (E : Int) := by rw [IntKind.wrap_i64]; omega
  have q5 : IntKind.u64.wrap (M : Int) = (M : Int) := by rw [IntKind.wrap_u64]; omega
  obtain ⟨D, hD⟩ : ∃ D : Nat, D = 3 - E := ⟨_, rfl⟩
  have q6 : IntKind.i64.wrap (3 - (E : Int)) = (D : Int) := by rw [IntKind.wrap_i64]; omega
  obtain ⟨K, hK⟩ : ∃ K : Nat, K = 8 * D := ⟨_, rfl⟩
  have q7 : IntKind.i64.wrap (8 * (D : Int)) = (K : Int) := by rw [IntKind.wrap_i64]; omega
  have q8 : decide ((3 : Int) < (E : Int)) = false := by simp; omega
  have hTl : M / 2 ^ K % 2 ^ 256 < 2 ^ 256 := Nat.mod_lt _ (by decide)
  have HO := Lib.hid (ROf M (by omega))
  have HS := RShr M (Nat.lt_trans hMl (by decide)) (K : Int) K (by omega) (by omega)
  rw [← hE, ← hD, ← hK, ← hM, ← hs]
  obtain ⟨T, hT⟩ : ∃ T, T = M / 2 ^ K % 2 ^ 256 := ⟨_, rfl⟩
  rw [← hT] at HS hTl ⊢
  have HZ := fun x y w => eqlRz T x y w hTl
  obtain ⟨W, hW⟩ : ∃ W, W = w.alloc (.cells #[.int .u64 0, .int .u64 0, .int .u64 0, .int .u64 0] 81) := ⟨_, rfl⟩
  obtain ⟨H, hH⟩ : ∃ H, H = w.heap.size := ⟨_, rfl⟩
  have bW : Below w.heap.size w W := by rw [hW]; exact (Below.refl _ _).alloc (Nat.le_refl _) _
  have aR : Av W H 81 (uq4 0 0 0 0) := by rw [hW, hH]; exact heap_alloc_new _ _
  have hHw : Hid (w.heap.size ≤ H) := Lib.hid (by rw [hH]; exact Nat.le_refl _)
  obtain ⟨Z, hZ⟩ : ∃ Z, Z = expR T false s := ⟨_, rfl⟩
  rw [← hZ]
  replace hZ := Lib.hid hZ
  replace HS := Lib.hid HS
  replace hW := Lib.hid hW
  replace hH := Lib.hid hH
  replace hT := Lib.hid hT
  replace hD := Lib.hid hD
  replace hK := Lib.hid hK
  have hsb := Lib.hid (show bits .and .u32 (b : Int) 8388608 = ((s * 8388608 : Nat) : Int) by
    have := (bits_nat .u32 32 (by decide) wraps_u32 b 8388608 (by omega) (by omega)).1
    rw [show b &&& 8388608 = s * 8388608 by rw [hs]; exact and_powR b 23] at this
    simpa using this)
  replace hs := Lib.hid hs
  replace hM := Lib.hid hM
  replace hE := Lib.hid hE
  clear hMl
  go_enter Tryd.func50, Tryd.ntmps50
  go_upto_region 1 with fail
  rw [← hW.out, ← hH.out]
  go_upto_region 3 with (first
    | (go_at_call 62; refine (HO.out _).mono ?_; rintro e w1 ⟨rfl, b1⟩)
    | ((with_reducible refine wpList_storeF 81 ((Below.refl w1.heap.size w1).alloc (Nat.le_refl _) _) (heap_alloc_new _ _) (Nat.le_refl _) (uc M) ?_ ?_ 4 ?_ ?_ ?_ ?_ ?_); rfl; rfl; rfl; kernel_rfl; rfl; rfl; intro w2 a5 b2 k2 z2; clear k2 z2))
  have b12 := b1.trans (b2.mono b1.size)
  have bw2 := bW.trans (b12.mono bW.size)
  have aR2 := aR.below b12
  clear b1 b2 b12 bW aR
  go_upto_region 4 with (first
    | ((with_reducible refine wpList_loadF 81 a5 ?_ _ 4 (uc_lenR M) Tryd.underlying81 ?_ ?_ ?_); rfl; rfl; kernel_rfl)
    | (go_at_call 63; refine (HS.out _).mono ?_; rintro e w3 ⟨rfl, b3⟩)
    | ((with_reducible refine wpList_storeF 81 ((Below.refl w3.heap.size w3).alloc (Nat.le_refl _) _) (heap_alloc_new _ _) (Nat.le_refl _) (uc T) ?_ ?_ 4 ?_ ?_ ?_ ?_ ?_); rfl; rfl; rfl; kernel_rfl; rfl; rfl; intro w4 a6 b4 k2 z2; clear k2 z2))
  have b34 := b3.trans (b4.mono b3.size)
  have bw4 := bw2.trans (b34.mono bw2.size)
  have aR4 := aR2.below b34
  clear b3 b4 b34 bw2 aR2 a5
  go_upto_region 7 with fail
  have hZZ := HZ
  clear HZ
  by_cases hT0 : T = 0
  · have hv : Z = .tuple #[.agg (uc 0).toArray, .int .i64 7] := by rw [hZ.out, expR, if_pos (Or.inl hT0)]
    rw [decide_eq_true hT0] at hZZ
    replace hZZ := Lib.hid hZZ
    replace hv := Lib.hid hv
    replace hT0 := Lib.hid hT0
    go_wp2_with (first
      | ((with_reducible refine wpList_loadF 81 a6 ?_ _ 4 (uc_lenR T) Tryd.underlying81 ?_ ?_ ?_); rfl; rfl; kernel_rfl)
      | ((with_reducible refine wpList_binG ?_ ?_ ?_ (hZZ.out _ _ _) ?_); rfl; rfl; rfl)
      | ((with_reducible refine wpList_storeFA 81 bw4 aR4 hHw.out (uq4 0 0 0 0) ?_ ?_ 4 ?_ ?_ ?_ ?_ ?_); rfl; rfl; rfl; kernel_rfl; rfl; rfl; intro w9 a9 b9 k9 z9; clear k9 z9))
    refine bodyPost_ret ((results_cellU (C := uq4 0 0 0 0) (by rfl) (by rfl) a9 _ Tryd.underlying81 rfl 4 rfl (by kernel_rfl)).trans (by rfl)) (by rfl) ⟨by rw [hv.out]; rfl, b9⟩
  · rw [decide_eq_false hT0] at hZZ
    replace hZZ := Lib.hid hZZ
    by_cases hs1 : s = 1
    · have hv : Z = .tuple #[.agg (uc 0).toArray, .int .i64 7] := by rw [hZ.out, expR, if_pos (Or.inr (Or.inr hs1))]
      have hb1 : bits .and .u32 (b : Int) 8388608 = 8388608 := by rw [hsb.out, hs1]; rfl
      replace hv := Lib.hid hv
      replace hs1 := Lib.hid hs1
      go_wp2_with (first
        | ((with_reducible refine wpList_loadF 81 a6 ?_ _ 4 (uc_lenR T) Tryd.underlying81 ?_ ?_ ?_); rfl; rfl; kernel_rfl)
        | ((with_reducible refine wpList_binG ?_ ?_ ?_ (hZZ.out _ _ _) ?_); rfl; rfl; rfl)
        | ((with_reducible refine wpList_storeFA 81 bw4 aR4 hHw.out (uq4 0 0 0 0) ?_ ?_ 4 ?_ ?_ ?_ ?_ ?_); rfl; rfl; rfl; kernel_rfl; rfl; rfl; intro w9 a9 b9 k9 z9; clear k9 z9))
      refine bodyPost_ret ((results_cellU (C := uq4 0 0 0 0) (by rfl) (by rfl) a9 _ Tryd.underlying81 rfl 4 rfl (by kernel_rfl)).trans (by rfl)) (by rfl) ⟨by rw [hv.out]; rfl, b9⟩
    · have hv : Z = .tuple #[.agg (uc T).toArray, .int .i64 0] := by rw [hZ.out, expR, if_neg (by simp [hT0, hs1])]
      have hb1 : bits .and .u32 (b : Int) 8388608 = 0 := by rw [hsb.out, show s = 0 by have := hs.out; omega]; rfl
      replace hv := Lib.hid hv
      clear hT0 hs1
      go_wp2_with (first
        | ((with_reducible refine wpList_loadF 81 a6 ?_ _ 4 (uc_lenR T) Tryd.underlying81 ?_ ?_ ?_); rfl; rfl; kernel_rfl)
        | ((with_reducible refine wpList_binG ?_ ?_ ?_ (hZZ.out _ _ _) ?_); rfl; rfl; rfl)
        | ((with_reducible refine wpList_storeFA 81 bw4 aR4 hHw.out (uc T) ?_ ?_ 4 ?_ ?_ ?_ ?_ ?_); rfl; rfl; rfl; kernel_rfl; rfl; rfl; intro w9 a9 b9 k9 z9; clear k9 z9))
      refine bodyPost_ret ((results_cellU (C := uc T) (by rfl) (by rfl) a9 _ Tryd.underlying81 rfl 4 rfl (by kernel_rfl)).trans (by rfl)) (by rfl) ⟨by rw [hv.out]; rfl, b9⟩
set_option maxRecDepth 100000 in
set_option maxHeartbeats 4000000 in
theorem RExp_hi (b : Nat) (hb : b < 4294967296) (h2 : 3 < b / 16777216) (w : World) :
    Calls Tryd.prog 50 #[.int .u32 (b : Int)] w fun e w' => e = .returned (expR (b % 8388608 * 2 ^ (8 * (b / 16777216 - 3)) % 2 ^ 256) (decide (2 ^ 256 ≤ b % 8388608 * 2 ^ (8 * (b / 16777216 - 3)))) (b / 8388608 % 2)) ∧ Below w.heap.size w w' := by
  obtain ⟨E, hE⟩ : ∃ E : Nat, E = b / 16777216 := ⟨_, rfl⟩
  obtain ⟨s, hs⟩ : ∃ s : Nat, s = b / 8388608 % 2 := ⟨_, rfl⟩
  obtain ⟨M, hM⟩ : ∃ M : Nat, M = b % 8388608 := ⟨_, rfl⟩
  rw [← hE] at h2
  have hMl : M < 8388608 := by omega
  have q1 : (b : Int) / 16777216 = (E : Int) := by omega
  have q3 : bits .and .u32 (b : Int) 8388607 = (M : Int) := by
    have := (bits_nat .u32 32 (by decide) wraps_u32 b 8388607 (by omega) (by omega)).1
    rw [show b &&& 8388607 = b % 8388608 from Nat.and_two_pow_sub_one_eq_mod _ 23, ← hM] at this
    simpa using this
  have q4 : IntKind.i64.wrap (E : Int) = (E : Int) := by rw [IntKind.wrap_i64]; omega
  have q5 : IntKind.u64.wrap (M : Int) = (M : Int) := by rw [IntKind.wrap_u64]; omega
  obtain ⟨D, hD⟩ : ∃ D : Nat, D = E - 3 := ⟨_, rfl⟩
  have hE255 : E ≤ 255 := by omega
  have q6 : IntKind.i64.wrap (3 - (E : Int)) = -(D : Int) := by rw [IntKind.wrap_i64]; omega
  have q9 : IntKind.i64.wrap ((E : Int) - 3) = (D : Int) := by rw [IntKind.wrap_i64]; omega
  obtain ⟨K, hK⟩ : ∃ K : Nat, K = 8 * D := ⟨_, rfl⟩
  have q7 : IntKind.i64.wrap (8 * (D : Int)) = (K : Int) := by rw [IntKind.wrap_i64]; omega
  have qa : IntKind.i64.wrap (8 * -(D : Int)) = -(K : Int) := by rw [IntKind.wrap_i64]; omega
  have qb : IntKind.i64.wrap (-(8 * (D : Int))) = -(K : Int) := by rw [IntKind.wrap_i64]; omega
  have q8 : decide ((3 : Int) < (E : Int)) = true := by simp; omega
  have hTl : M * 2 ^ K % 2 ^ 256 < 2 ^ 256 := Nat.mod_lt _ (by decide)
  have HO := Lib.hid (ROf M (by omega))
  have HS := RShl M (Nat.lt_trans hMl (by decide)) (K : Int) K (by omega) (by omega)
  have HS0 := RShr M (Nat.lt_trans hMl (by decide)) (-(K : Int)) 0 (by omega) (by omega)
  obtain ⟨T0, hT0'⟩ : ∃ T, T = M / 2 ^ 0 % 2 ^ 256 := ⟨_, rfl⟩
  rw [← hT0'] at HS0
  replace hT0' := Lib.hid hT0'
  replace HS0 := Lib.hid HS0
  rw [← hE, ← hD, ← hK, ← hM, ← hs]
  obtain ⟨T, hT⟩ : ∃ T, T = M * 2 ^ K % 2 ^ 256 := ⟨_, rfl⟩
  rw [← hT] at HS hTl ⊢
  obtain ⟨LB, hLB⟩ : ∃ q, q = decide (2 ^ 256 ≤ M * 2 ^ K) := ⟨_, rfl⟩
  rw [← hLB] at HS ⊢
  replace hLB := Lib.hid hLB
  have HZ := fun x y w => eqlRz T x y w hTl
  obtain ⟨W, hW⟩ : ∃ W, W = w.alloc (.cells #[.int .u64 0, .int .u64 0, .int .u64 0, .int .u64 0] 81) := ⟨_, rfl⟩
  obtain ⟨H, hH⟩ : ∃ H, H = w.heap.size := ⟨_, rfl⟩
  have bW : Below w.heap.size w W := by rw [hW]; exact (Below.refl _ _).alloc (Nat.le_refl _) _
  have aR : Av W H 81 (uq4 0 0 0 0) := by rw [hW, hH]; exact heap_alloc_new _ _
  have hHw : Hid (w.heap.size ≤ H) := Lib.hid (by rw [hH]; exact Nat.le_refl _)
  obtain ⟨Z, hZ⟩ : ∃ Z, Z = expR T LB s := ⟨_, rfl⟩
  rw [← hZ]
  replace hZ := Lib.hid hZ
  replace HS := Lib.hid HS
  replace hW := Lib.hid hW
  replace hH := Lib.hid hH
  replace hT := Lib.hid hT
  replace hD := Lib.hid hD
  replace hK := Lib.hid hK
  have hsb := Lib.hid (show bits .and .u32 (b : Int) 8388608 = ((s * 8388608 : Nat) : Int) by
    have := (bits_nat .u32 32 (by decide) wraps_u32 b 8388608 (by omega) (by omega)).1
    rw [show b &&& 8388608 = s * 8388608 by rw [hs]; exact and_powR b 23] at this
    simpa using this)
  replace hs := Lib.hid hs
  replace hM := Lib.hid hM
  replace hE := Lib.hid hE
  clear hMl
  go_enter Tryd.func50, Tryd.ntmps50
  go_upto_region 1 with fail
  rw [← hW.out, ← hH.out]
  go_upto_region 3 with (first
    | (go_at_call 62; refine (HO.out _).mono ?_; rintro e w1 ⟨rfl, b1⟩)
    | ((with_reducible refine wpList_storeF 81 ((Below.refl w1.heap.size w1).alloc (Nat.le_refl _) _) (heap_alloc_new _ _) (Nat.le_refl _) (uc M) ?_ ?_ 4 ?_ ?_ ?_ ?_ ?_); rfl; rfl; rfl; kernel_rfl; rfl; rfl; intro w2 a5 b2 k2 z2; clear k2 z2))
  have b12 := b1.trans (b2.mono b1.size)
  have bw2 := bW.trans (b12.mono bW.size)
  have aR2 := aR.below b12
  clear b1 b2 b12 bW aR
  go_upto_region 4 with (first
    | ((with_reducible refine wpList_loadF 81 a5 ?_ _ 4 (uc_lenR M) Tryd.underlying81 ?_ ?_ ?_); rfl; rfl; kernel_rfl)
    | (go_at_call 63; refine (HS0.out _).mono ?_; rintro e w3 ⟨rfl, b3⟩)
    | ((with_reducible refine wpList_storeF 81 ((Below.refl w3.heap.size w3).alloc (Nat.le_refl _) _) (heap_alloc_new _ _) (Nat.le_refl _) (uc T0) ?_ ?_ 4 ?_ ?_ ?_ ?_ ?_); rfl; rfl; rfl; kernel_rfl; rfl; rfl; intro w4 a6 b4 k2 z2; clear k2 z2))
  have b34 := b3.trans (b4.mono b3.size)
  have bw4 := bw2.trans (b34.mono bw2.size)
  have aR4 := aR2.below b34
  have hH3 : H < w3.heap.size := Nat.lt_of_lt_of_le aR2.lt b3.size
  have a54 := a5.below b34
  have hw34 : w.heap.size ≤ w3.heap.size := (bw2.trans (b3.mono bw2.size)).size
  clear b3 b4 b34 bw2 aR2 a5
  go_upto_region 6 with fail
  go_upto_region 7 with (first
    | ((with_reducible refine wpList_loadF 81 a54 ?_ _ 4 (uc_lenR M) Tryd.underlying81 ?_ ?_ ?_); rfl; rfl; kernel_rfl)
    | (go_at_call 64; refine (HS.out _).mono ?_; rintro e w5 ⟨rfl, b5⟩)
    | ((with_reducible refine wpList_storeFA 81 (bw4.trans (b5.mono bw4.size)) (a6.below b5) hw34 (uc T) ?_ ?_ 4 ?_ ?_ ?_ ?_ ?_); rfl; rfl; rfl; kernel_rfl; rfl; rfl; intro w7 a7 b7 k7 z7))
  have aR7 : Av w7 H 81 (uq4 0 0 0 0) := (aR4.below b5).same (k7 H (Nat.ne_of_lt hH3))
  replace bw4 := b7
  replace a6 := a7
  replace aR4 := aR7
  clear b5 b7 a7 aR7 a54
  have hZZ := HZ
  clear HZ
  by_cases hT0 : T = 0
  · have hv : Z = .tuple #[.agg (uc 0).toArray, .int .i64 7] := by rw [hZ.out, expR, if_pos (Or.inl hT0)]
    rw [decide_eq_true hT0] at hZZ
    replace hZZ := Lib.hid hZZ
    replace hv := Lib.hid hv
    replace hT0 := Lib.hid hT0
    go_wp2_with (first
      | ((with_reducible refine wpList_loadF 81 a6 ?_ _ 4 (uc_lenR T) Tryd.underlying81 ?_ ?_ ?_); rfl; rfl; kernel_rfl)
      | ((with_reducible refine wpList_binG ?_ ?_ ?_ (hZZ.out _ _ _) ?_); rfl; rfl; rfl)
      | ((with_reducible refine wpList_storeFA 81 bw4 aR4 hHw.out (uq4 0 0 0 0) ?_ ?_ 4 ?_ ?_ ?_ ?_ ?_); rfl; rfl; rfl; kernel_rfl; rfl; rfl; intro w9 a9 b9 k9 z9; clear k9 z9))
    refine bodyPost_ret ((results_cellU (C := uq4 0 0 0 0) (by rfl) (by rfl) a9 _ Tryd.underlying81 rfl 4 rfl (by kernel_rfl)).trans (by rfl)) (by rfl) ⟨by rw [hv.out]; rfl, b9⟩
  · rw [decide_eq_false hT0] at hZZ
    replace hZZ := Lib.hid hZZ
    cases LB
    · by_cases hs1 : s = 1
      · have hv : Z = .tuple #[.agg (uc 0).toArray, .int .i64 7] := by rw [hZ.out, expR, if_pos (Or.inr (Or.inr hs1))]
        have hb1 : bits .and .u32 (b : Int) 8388608 = 8388608 := by rw [hsb.out, hs1]; rfl
        replace hv := Lib.hid hv
        replace hs1 := Lib.hid hs1
        go_wp2_with (first
          | ((with_reducible refine wpList_loadF 81 a6 ?_ _ 4 (uc_lenR T) Tryd.underlying81 ?_ ?_ ?_); rfl; rfl; kernel_rfl)
          | ((with_reducible refine wpList_binG ?_ ?_ ?_ (hZZ.out _ _ _) ?_); rfl; rfl; rfl)
          | ((with_reducible refine wpList_storeFA 81 bw4 aR4 hHw.out (uq4 0 0 0 0) ?_ ?_ 4 ?_ ?_ ?_ ?_ ?_); rfl; rfl; rfl; kernel_rfl; rfl; rfl; intro w9 a9 b9 k9 z9; clear k9 z9))
        refine bodyPost_ret ((results_cellU (C := uq4 0 0 0 0) (by rfl) (by rfl) a9 _ Tryd.underlying81 rfl 4 rfl (by kernel_rfl)).trans (by rfl)) (by rfl) ⟨by rw [hv.out]; rfl, b9⟩
      · have hv : Z = .tuple #[.agg (uc T).toArray, .int .i64 0] := by rw [hZ.out, expR, if_neg (by simp [hT0, hs1])]
        have hb1 : bits .and .u32 (b : Int) 8388608 = 0 := by rw [hsb.out, show s = 0 by have := hs.out; omega]; rfl
        replace hv := Lib.hid hv
        clear hT0 hs1
        go_wp2_with (first
          | ((with_reducible refine wpList_loadF 81 a6 ?_ _ 4 (uc_lenR T) Tryd.underlying81 ?_ ?_ ?_); rfl; rfl; kernel_rfl)
          | ((with_reducible refine wpList_binG ?_ ?_ ?_ (hZZ.out _ _ _) ?_); rfl; rfl; rfl)
          | ((with_reducible refine wpList_storeFA 81 bw4 aR4 hHw.out (uc T) ?_ ?_ 4 ?_ ?_ ?_ ?_ ?_); rfl; rfl; rfl; kernel_rfl; rfl; rfl; intro w9 a9 b9 k9 z9; clear k9 z9))
        refine bodyPost_ret ((results_cellU (C := uc T) (by rfl) (by rfl) a9 _ Tryd.underlying81 rfl 4 rfl (by kernel_rfl)).trans (by rfl)) (by rfl) ⟨by rw [hv.out]; rfl, b9⟩
    · have hv : Z = .tuple #[.agg (uc 0).toArray, .int .i64 7] := by rw [hZ.out, expR, if_pos (Or.inr (Or.inl rfl))]
      replace hv := Lib.hid hv
      clear hT0
      go_wp2_with (first
        | ((with_reducible refine wpList_loadF 81 a6 ?_ _ 4 (uc_lenR T) Tryd.underlying81 ?_ ?_ ?_); rfl; rfl; kernel_rfl)
        | ((with_reducible refine wpList_binG ?_ ?_ ?_ (hZZ.out _ _ _) ?_); rfl; rfl; rfl)
        | ((with_reducible refine wpList_storeFA 81 bw4 aR4 hHw.out (uq4 0 0 0 0) ?_ ?_ 4 ?_ ?_ ?_ ?_ ?_); rfl; rfl; rfl; kernel_rfl; rfl; rfl; intro w9 a9 b9 k9 z9; clear k9 z9))
      refine bodyPost_ret ((results_cellU (C := uq4 0 0 0 0) (by rfl) (by rfl) a9 _ Tryd.underlying81 rfl 4 rfl (by kernel_rfl)).trans (by rfl)) (by rfl) ⟨by rw [hv.out]; rfl, b9⟩
theorem two_256 : (2 : Nat) ^ 256 = 115792089237316195423570985008687907853269984665640564039457584007913129639936 := by decide
theorem exp_lo (b : Nat) (h2 : b / 16777216 ≤ 3) : expR (b % 8388608 / 2 ^ (8 * (3 - b / 16777216)) % 2 ^ 256) false (b / 8388608 % 2) = expV b := by
  have hm : b % 8388608 / 2 ^ (8 * (3 - b / 16777216)) < 2 ^ 256 := Nat.lt_of_le_of_lt (Nat.div_le_self _ _) (Nat.lt_trans (Nat.mod_lt b (by decide : 0 < 8388608)) (by decide))
  rw [Nat.mod_eq_of_lt hm]
  by_cases hz : b % 8388608 = 0
  · rw [expV_none (by rw [mExp, if_pos hz]), expR, if_pos (Or.inl (by rw [hz, Nat.zero_div]))]
  by_cases hs : b / 8388608 % 2 = 1
  · rw [expV_none (by rw [mExp, if_neg hz, if_pos hs]), expR, if_pos (Or.inr (Or.inr hs))]
  by_cases h3 : b / 16777216 < 3
  · by_cases h0 : b % 8388608 / 2 ^ (8 * (3 - b / 16777216)) = 0
    · rw [expV_none (by rw [mExp, if_neg hz, if_neg hs, if_pos h3, if_pos h0]), expR, if_pos (Or.inl h0)]
    · rw [expV_some (by rw [mExp, if_neg hz, if_neg hs, if_pos h3, if_neg h0]), expR, if_neg (by simp [h0, hs])]
  · have e3 : b / 16777216 = 3 := by omega
    have hv : mExp b = some (b % 8388608) := by
      rw [mExp, if_neg hz, if_neg hs, if_neg h3, e3, Nat.sub_self, Nat.mul_zero, Nat.pow_zero, Nat.mul_one, if_neg (by omega)]
    rw [expV_some hv, e3, Nat.sub_self, Nat.mul_zero, Nat.pow_zero, Nat.div_one, expR, if_neg (by simp [hz, hs])]
theorem exp_hi (b : Nat) (h2 : 3 < b / 16777216) : expR (b % 8388608 * 2 ^ (8 * (b / 16777216 - 3)) % 2 ^ 256) (decide (2 ^ 256 ≤ b % 8388608 * 2 ^ (8 * (b / 16777216 - 3)))) (b / 8388608 % 2) = expV b := by
  have h3 : ¬ b / 16777216 < 3 := by omega
  by_cases hz : b % 8388608 = 0
  · rw [expV_none (by rw [mExp, if_pos hz]), expR, if_pos (Or.inl (by rw [hz, Nat.zero_mul, Nat.zero_mod]))]
  by_cases hs : b / 8388608 % 2 = 1
  · rw [expV_none (by rw [mExp, if_neg hz, if_pos hs]), expR, if_pos (Or.inr (Or.inr hs))]
  have hp : b % 8388608 * 2 ^ (8 * (b / 16777216 - 3)) ≠ 0 := Nat.pos_iff_ne_zero.1 (Nat.mul_pos (by omega) (Nat.two_pow_pos _))
  have hv : mExp b = if 115792089237316195423570985008687907853269984665640564039457584007913129639936 ≤ b % 8388608 * 2 ^ (8 * (b / 16777216 - 3)) then none else some (b % 8388608 * 2 ^ (8 * (b / 16777216 - 3))) := by
    rw [mExp, if_neg hz, if_neg hs, if_neg h3]
  rw [two_256]
  generalize b % 8388608 * 2 ^ (8 * (b / 16777216 - 3)) = T at *
  by_cases hl : 115792089237316195423570985008687907853269984665640564039457584007913129639936 ≤ T
  · rw [if_pos hl] at hv
    rw [expV_none hv, expR, if_pos (Or.inr (Or.inl (decide_eq_true hl)))]
  · rw [if_neg hl] at hv
    rw [expV_some hv, Nat.mod_eq_of_lt (by omega), expR, if_neg (by simp [hp, hs]; omega)]
theorem RExpand (b : Nat) (hb : b < 4294967296) (w : World) : Calls Tryd.prog 50 #[.int .u32 (b : Int)] w fun e w' => e = .returned (expV b) ∧ Below w.heap.size w w' := by
  by_cases h : b / 16777216 ≤ 3
  · rw [← exp_lo b h]
    exact RExp_lo b hb h w
  · rw [← exp_hi b (by omega)]
    exact RExp_hi b hb (by omega) w
end Go.Proofs.YtjgdmpbaikhflaaDoor
