import Derived.Test.YtobjgebojhjhnaaDoorUl
import Derived.Test.YtobjgebojhjhnaaDoorQr10
import Derived.Test.YtobjgebojhjhnaaDoorQr4
namespace Go.Proofs.YtobjgebojhjhnaaDoor
open Go.RowKit
theorem bitLen_hi : ∀ (k x : Nat), x < 18446744073709551616 → Lib.bitLen x ≤ k → x < 2 ^ k
 | 0, x, hx, h => by
  by_cases h0 : x = 0
  ·subst h0; decide
  ·rw [Lib.bitLen_half x h0 hx] at h; omega
 | k + 1, x, hx, h => by
  by_cases h0 : x = 0
  ·subst h0; exact Nat.pow_pos (by omega)
  ·rw [Lib.bitLen_half x h0 hx] at h
   have := bitLen_hi k (x / 2) (by omega) (by omega)
   rw [Nat.pow_succ]
   omega
theorem bitLen_iff (m n : Nat) (hm : m < 4294967296) (hn : n < 256) : 256 < Lib.bitLen m + n ↔ 115792089237316195423570985008687907853269984665640564039457584007913129639936 ≤ m * 2 ^ n := by
 have e : (115792089237316195423570985008687907853269984665640564039457584007913129639936 : Nat) = 2 ^ (256 - n) * 2 ^ n := by
  rw [← Nat.pow_add, Nat.sub_add_cancel (by omega)]
 rw [e, Nat.mul_le_mul_right_iff (Nat.pow_pos (by omega))]
 constructor
 ·intro h
  rcases Nat.lt_or_ge m (2 ^ (256 - n)) with h' | h'
  ·by_cases h64 : 256 - n ≤ 64
   ·have := Lib.bitLen_le m (256 - n) h64 h'
    omega
   ·have := bitLen_64 (x := m) (by omega)
    omega
  ·exact h'
 ·intro h
  rcases Nat.lt_or_ge 256 (Lib.bitLen m + n) with h' | h'
  ·exact h'
  ·have := bitLen_hi (256 - n) m (by omega) (by omega)
   omega
theorem two_parts (m d : Nat) (hm : m < 4294967296) (hd : d < 64) : ∃ P : Nat, P = m * 2 ^ d ∧ P < 79228162514264337593543950336 ∧ m / 2 ^ (64 - d) = P / 18446744073709551616 := by
 refine ⟨_, rfl, ?_, ?_⟩
 ·have h1 : m * 2 ^ d < 4294967296 * 2 ^ d := Nat.mul_lt_mul_of_pos_right hm (Nat.pow_pos (by omega))
  have h2 : 2 ^ d ≤ 2 ^ 64 := Nat.pow_le_pow_right (by omega) (by omega)
  omega
 ·have e : (18446744073709551616 : Nat) = 2 ^ (64 - d) * 2 ^ d := by rw [← Nat.pow_add, Nat.sub_add_cancel (by omega)]
  rw [e, Nat.mul_div_mul_right _ _ (Nat.pow_pos (by omega))]
theorem cast_parts (m d : Nat) (hm : m < 4294967296) (hd : d < 64) : ∃ P : Nat, P = m * 2 ^ d ∧ P < 79228162514264337593543950336 ∧ (m : Int) * 2 ^ d % 18446744073709551616 = ((P % 18446744073709551616 : Nat) : Int) ∧ (m : Int) / 2 ^ (64 - d) = ((P / 18446744073709551616 : Nat) : Int) := by
 obtain ⟨P, hP, h1, h2⟩ := two_parts m d hm hd
 refine ⟨P, hP, h1, ?_, ?_⟩
 ·rw [hP]; simp
 ·rw [← h2]; simp
theorem UShl (m n : Nat) (hm : m < 4294967296) (w : World) :
  Calls Tryd.prog 94 #[.agg (uq4 m 0 0 0).toArray, .int .i64 (n : Int)] w fun e w' => e = .returned (.tuple #[.agg (uc (m * 2 ^ n % 115792089237316195423570985008687907853269984665640564039457584007913129639936)).toArray, .bool (decide (115792089237316195423570985008687907853269984665640564039457584007913129639936 ≤ m * 2 ^ n))]) ∧ Below w.heap.size w w' := by
 rcases Nat.lt_or_ge n 256 with hn | hn
 ·by_cases h0 : n = 0
  ·subst h0
   have e1 : m * 2 ^ 0 % 115792089237316195423570985008687907853269984665640564039457584007913129639936 = m := by omega
   have e2 : decide (115792089237316195423570985008687907853269984665640564039457584007913129639936 ≤ m * 2 ^ 0) = false := by simp; omega
   rw [e1, e2, uc_small (by omega)]
   exact UShl_z m w
  ·obtain ⟨q, d, hq, hd, rfl⟩ : ∃ q d, q < 4 ∧ d < 64 ∧ n = 64 * q + d := ⟨n / 64, n % 64, by omega, by omega, by omega⟩
   have hb : decide (256 < len4 m 0 0 0 + (64 * q + d)) = decide (115792089237316195423570985008687907853269984665640564039457584007913129639936 ≤ m * 2 ^ (64 * q + d)) := by
    rw [decide_eq_decide, ← bitLen_iff m _ hm hn]
    simp [len4]
   rw [← hb]
   obtain ⟨P, hP, hP2, c1, c2⟩ := cast_parts m d hm hd
   have hV : m * 2 ^ (64 * q + d) = P * 2 ^ (64 * q) := by rw [hP, Nat.mul_assoc, ← Nat.pow_add, Nat.add_comm d]
   rw [hV]
   have hq4 : q = 0 ∨ q = 1 ∨ q = 2 ∨ q = 3 := by omega
   rcases hq4 with rfl | rfl | rfl | rfl
   ·have h := UShl_0 m d hm hd (by omega) w
    rw [c1, c2] at h
    have e : uc (P * 2 ^ (64 * 0) % 115792089237316195423570985008687907853269984665640564039457584007913129639936) = [.int .u64 ((P % 18446744073709551616 : Nat) : Int), .int .u64 ((P / 18446744073709551616 : Nat) : Int), .int .u64 0, .int .u64 0] := by
     rw [uc, show [Value.int .u64 ((P % 18446744073709551616 : Nat) : Int), .int .u64 ((P / 18446744073709551616 : Nat) : Int), .int .u64 0, .int .u64 0] = uq4 (P % 18446744073709551616) (P / 18446744073709551616) 0 0 from rfl, u4_eq]
     unfold lim
     omega
    rw [e]
    exact h
   ·have h := UShl_1 m d hm hd (by omega) w
    rw [c1, c2] at h
    have e : uc (P * 2 ^ (64 * 1) % 115792089237316195423570985008687907853269984665640564039457584007913129639936) = [.int .u64 0, .int .u64 ((P % 18446744073709551616 : Nat) : Int), .int .u64 ((P / 18446744073709551616 : Nat) : Int), .int .u64 0] := by
     rw [uc, show [Value.int .u64 0, Value.int .u64 ((P % 18446744073709551616 : Nat) : Int), .int .u64 ((P / 18446744073709551616 : Nat) : Int), .int .u64 0] = uq4 0 (P % 18446744073709551616) (P / 18446744073709551616) 0 from rfl, u4_eq]
     unfold lim
     omega
    rw [e]
    exact h
   ·have h := UShl_2 m d hm hd (by omega) w
    rw [c1, c2] at h
    have e : uc (P * 2 ^ (64 * 2) % 115792089237316195423570985008687907853269984665640564039457584007913129639936) = [.int .u64 0, .int .u64 0, .int .u64 ((P % 18446744073709551616 : Nat) : Int), .int .u64 ((P / 18446744073709551616 : Nat) : Int)] := by
     rw [uc, show [Value.int .u64 0, .int .u64 0, Value.int .u64 ((P % 18446744073709551616 : Nat) : Int), .int .u64 ((P / 18446744073709551616 : Nat) : Int)] = uq4 0 0 (P % 18446744073709551616) (P / 18446744073709551616) from rfl, u4_eq]
     unfold lim
     omega
    rw [e]
    exact h
   ·have h := UShl_3 m d hm hd (by omega) w
    rw [c1] at h
    have e : uc (P * 2 ^ (64 * 3) % 115792089237316195423570985008687907853269984665640564039457584007913129639936) = [.int .u64 0, .int .u64 0, .int .u64 0, .int .u64 ((P % 18446744073709551616 : Nat) : Int)] := by
     rw [uc, show [Value.int .u64 0, .int .u64 0, .int .u64 0, Value.int .u64 ((P % 18446744073709551616 : Nat) : Int)] = uq4 0 0 0 (P % 18446744073709551616) from rfl, u4_eq]
     unfold lim
     omega
    rw [e]
    exact h
 ·have e : m * 2 ^ n = m * 2 ^ (n - 256) * 115792089237316195423570985008687907853269984665640564039457584007913129639936 := by
   rw [show (115792089237316195423570985008687907853269984665640564039457584007913129639936 : Nat) = 2 ^ 256 from rfl, Nat.mul_assoc, ← Nat.pow_add, Nat.sub_add_cancel hn]
  have e1 : m * 2 ^ n % 115792089237316195423570985008687907853269984665640564039457584007913129639936 = 0 := by rw [e, Nat.mul_mod_left]
  have e2 : decide (115792089237316195423570985008687907853269984665640564039457584007913129639936 ≤ m * 2 ^ n) = !decide (m = 0) := by
   by_cases h0 : m = 0
   ·subst h0; simp
   ·rw [decide_eq_true, decide_eq_false h0]; rfl
    have : 0 < m * 2 ^ (n - 256) := Nat.mul_pos (by omega) (Nat.pow_pos (by omega))
    rw [e]; omega
  rw [e1, e2, uc_small (by omega)]
  exact UShl_b m n hn w
def mExp (b : Nat) : Option Nat :=
 if b % 8388608 = 0 then none
 else if b / 8388608 % 2 = 1 then none
 else if b / 16777216 < 3 then (if b % 8388608 / 2 ^ (8 * (3 - b / 16777216)) = 0 then none else some (b % 8388608 / 2 ^ (8 * (3 - b / 16777216))))
 else if 115792089237316195423570985008687907853269984665640564039457584007913129639936 ≤ b % 8388608 * 2 ^ (8 * (b / 16777216 - 3)) then none
 else some (b % 8388608 * 2 ^ (8 * (b / 16777216 - 3)))
theorem mExp_lt {b t : Nat} (h : mExp b = some t) : t < 115792089237316195423570985008687907853269984665640564039457584007913129639936 ∧ 0 < t := by
 unfold mExp at h
 split at h
 ·cases h
 ·split at h
  ·cases h
  ·split at h
   ·split at h
    ·cases h
    ·rename_i h1
     injection h with h
     subst h
     refine ⟨?_, Nat.pos_of_ne_zero h1⟩
     exact Nat.lt_of_le_of_lt (Nat.div_le_self _ _) (by omega)
   ·split at h
    ·cases h
    ·rename_i h0 _ _ h1
     injection h with h
     subst h
     refine ⟨by omega, ?_⟩
     exact Nat.mul_pos (by omega) (Nat.pow_pos (by omega))
end Go.Proofs.YtobjgebojhjhnaaDoor
namespace Go.Proofs.YtobjgebojhjhnaaDoor
open Go.RowKit
theorem uc_zero : uc 0 = uq4 0 0 0 0 := uc_small (by omega)
theorem eqlZ (n : Nat) (x y : Operand) (w : World) (hn : n < 115792089237316195423570985008687907853269984665640564039457584007913129639936) : (do eqGuard .eql 139 x y (.agg (uc n).toArray) (.agg (uq4 0 0 0 0).toArray); binOp .eql 139 (.agg (uc n).toArray) (.agg (uq4 0 0 0 0).toArray) : Sem Value).run Tryd.prog w = .ok (.bool (decide (n = 0))) w := by
 unfold uc
 rw [eqlUg]
 congr 2
 rw [decide_eq_decide]
 constructor
 ·rintro ⟨h0, h1, h2, h3⟩
  rw [lim_sum hn, h0, h1, h2, h3]
 ·rintro rfl
  exact lim_small (by omega)
set_option maxRecDepth 10000 in
set_option maxHeartbeats 2000000 in
theorem TExp_a (b : Nat) (hb : b < 4294967296) (h0 : b % 8388608 ≠ 0) (h1 : b / 8388608 % 2 = 1) (w : World) : Calls Tryd.prog 80 #[.int .u32 (b : Int)] w fun e w' => e = .returned (.tuple #[.agg (uc 0).toArray, .int .i64 7]) ∧ Below w.heap.size w w' := by
 obtain ⟨E, hE⟩ : ∃ E : Nat, E = b / 16777216 := ⟨_, rfl⟩
 obtain ⟨s, hs⟩ : ∃ s : Nat, s = b / 8388608 % 2 := ⟨_, rfl⟩
 obtain ⟨M, hM⟩ : ∃ M : Nat, M = b % 8388608 := ⟨_, rfl⟩
 rw [← hM] at h0
 have hMl : M < 8388608 := by omega
 have hEl : E < 256 := by omega
 have q1 : (b : Int) / 16777216 = (E : Int) := by omega
 have q2 : bits .and .u32 ((b : Int) / 8388608) 1 = (s : Int) := by
  have := (bits_nat .u32 32 (by decide) wraps_u32 (b / 8388608) 1 (by omega) (by omega)).1
  rw [show b / 8388608 &&& 1 = b / 8388608 % 2 from Nat.and_two_pow_sub_one_eq_mod _ 1, ← hs] at this
  simpa using this
 have q3 : bits .and .u32 (b : Int) 8388607 = (M : Int) := by
  have := (bits_nat .u32 32 (by decide) wraps_u32 b 8388607 (by omega) (by omega)).1
  rw [show b &&& 8388607 = b % 8388608 from Nat.and_two_pow_sub_one_eq_mod _ 23, ← hM] at this
  simpa using this
 have q4 : IntKind.i64.wrap (E : Int) = (E : Int) := by rw [IntKind.wrap_i64]; omega
 have q5 : IntKind.u64.wrap (M : Int) = (M : Int) := by rw [IntKind.wrap_u64]; omega
 obtain ⟨W, hW⟩ : ∃ W, W = w.alloc (.cells #[.int .u64 0, .int .u64 0, .int .u64 0, .int .u64 0] 139) := ⟨_, rfl⟩
 obtain ⟨H, hH⟩ : ∃ H, H = w.heap.size := ⟨_, rfl⟩
 have bW : Below H w W := by rw [hW, hH]; exact (Below.refl _ _).alloc (Nat.le_refl _) _
 have rW : Av W H 139 [.int .u64 0, .int .u64 0, .int .u64 0, .int .u64 0] := by rw [hW, hH]; exact heap_alloc_new _ _
 replace hW := Lib.hid hW
 replace hH := Lib.hid hH
 rw [← hs] at h1
 have t1 : ((M : Int) != 0) = true := by simp; omega
 have t2 : ((s : Int) == 1) = true := by simp; omega
 clear hE hs hM
 rw [uc_zero]
 go_enter Tryd.func80, Tryd.ntmps80
 go_upto_region 1 with fail
 rw [← hW.out, ← hH.out]
 go_wp2_with ((with_reducible refine wpList_storeFA 139 bW rW (Nat.le_refl _) (uq4 0 0 0 0) ?_ ?_ 4 ?_ ?_ ?_ ?_ ?_); rfl; rfl; rfl; kernel_rfl; rfl; rfl; intro w6 a6 b6 k6 z6; clear k6; replace z6 := Lib.hid z6)
 refine bodyPost_ret (v := .tuple #[.agg (uq4 0 0 0 0).toArray, .int .i64 7]) ((results_cellU (C := uq4 0 0 0 0) (by rfl) (by rfl) a6 _ Tryd.underlying139 rfl 4 rfl (by kernel_rfl)).trans (by rfl)) (by rfl) ?_
 exact ⟨rfl, by rw [← hH.out]; exact b6⟩
set_option maxRecDepth 10000 in
set_option maxHeartbeats 2000000 in
theorem TExp_lo_zero (b : Nat) (hb : b < 4294967296) (h0 : ¬ (b % 8388608 ≠ 0 ∧ b / 8388608 % 2 = 1)) (h2 : b / 16777216 < 3) (h3 : b % 8388608 / 2 ^ (8 * (3 - b / 16777216)) = 0) (w : World) : Calls Tryd.prog 80 #[.int .u32 (b : Int)] w fun e w' => e = .returned (.tuple #[.agg (uc 0).toArray, .int .i64 7]) ∧ Below w.heap.size w w' := by
 obtain ⟨E, hE⟩ : ∃ E : Nat, E = b / 16777216 := ⟨_, rfl⟩
 obtain ⟨s, hs⟩ : ∃ s : Nat, s = b / 8388608 % 2 := ⟨_, rfl⟩
 obtain ⟨M, hM⟩ : ∃ M : Nat, M = b % 8388608 := ⟨_, rfl⟩
 rw [← hM] at h0 h3
 have hMl : M < 8388608 := by omega
 have hEl : E < 256 := by omega
 have q1 : (b : Int) / 16777216 = (E : Int) := by omega
 have q2 : bits .and .u32 ((b : Int) / 8388608) 1 = (s : Int) := by
  have := (bits_nat .u32 32 (by decide) wraps_u32 (b / 8388608) 1 (by omega) (by omega)).1
  rw [show b / 8388608 &&& 1 = b / 8388608 % 2 from Nat.and_two_pow_sub_one_eq_mod _ 1, ← hs] at this
  simpa using this
 have q3 : bits .and .u32 (b : Int) 8388607 = (M : Int) := by
  have := (bits_nat .u32 32 (by decide) wraps_u32 b 8388607 (by omega) (by omega)).1
  rw [show b &&& 8388607 = b % 8388608 from Nat.and_two_pow_sub_one_eq_mod _ 23, ← hM] at this
  simpa using this
 have q4 : IntKind.i64.wrap (E : Int) = (E : Int) := by rw [IntKind.wrap_i64]; omega
 have q5 : IntKind.u64.wrap (M : Int) = (M : Int) := by rw [IntKind.wrap_u64]; omega
 obtain ⟨W, hW⟩ : ∃ W, W = w.alloc (.cells #[.int .u64 0, .int .u64 0, .int .u64 0, .int .u64 0] 139) := ⟨_, rfl⟩
 obtain ⟨H, hH⟩ : ∃ H, H = w.heap.size := ⟨_, rfl⟩
 have bW : Below H w W := by rw [hW, hH]; exact (Below.refl _ _).alloc (Nat.le_refl _) _
 have rW : Av W H 139 [.int .u64 0, .int .u64 0, .int .u64 0, .int .u64 0] := by rw [hW, hH]; exact heap_alloc_new _ _
 replace hW := Lib.hid hW
 replace hH := Lib.hid hH
 rw [← hs] at h0
 rw [← hE] at h2 h3
 have t4 : decide ((E : Int) < 3) = true := by simp; omega
 obtain ⟨j, hj⟩ : ∃ j : Nat, j = 8 * (3 - E) := ⟨_, rfl⟩
 rw [← hj] at h3
 have q6 : IntKind.i64.wrap (3 - (E : Int)) = 3 - (E : Int) := by rw [IntKind.wrap_i64]; omega
 have q7 : IntKind.i64.wrap (8 * (3 - (E : Int))) = (j : Int) := by rw [IntKind.wrap_i64]; omega
 have HS := UShr M j (by omega) (by omega) (by omega)
 have hv : M / 2 ^ j < 18446744073709551616 := Nat.lt_of_le_of_lt (Nat.div_le_self _ _) (by omega)
 rw [← uc_small hv] at HS
 have HZ := fun x y w => eqlZ (M / 2 ^ j) x y w (by omega)
 obtain ⟨V, hV⟩ : ∃ V, V = M / 2 ^ j := ⟨_, rfl⟩
 rw [← hV] at HS HZ h3
 rw [show decide (V = 0) = true from decide_eq_true h3] at HZ
 replace HZ := Lib.hid HZ
 have HO := UOf M (by omega)
 rw [uc_small (by omega)] at HO
 replace HS := Lib.hid HS
 replace HO := Lib.hid HO
 replace hV := Lib.hid hV
 by_cases hM0 : M = 0
 ·have t1 : ((M : Int) != 0) = false := by simp; omega
  clear hE hs hM hj hM0 h0 h3
  go_enter Tryd.func80, Tryd.ntmps80
  go_upto_region 1 with fail
  rw [← hW.out, ← hH.out]
  go_upto_region 5 with (first
   | (go_at_call 81; refine (HO.out W).mono ?_; rintro e w1 ⟨rfl, b1⟩)
   | ((with_reducible refine wpList_storeF 139 ((Below.refl w1.heap.size w1).alloc (Nat.le_refl _) _) (heap_alloc_new _ _) (Nat.le_refl _) (uq4 M 0 0 0) ?_ ?_ 4 ?_ ?_ ?_ ?_ ?_); rfl; rfl; rfl; kernel_rfl; rfl; rfl; intro w2 a2 b2 k2 z2; clear k2; replace z2 := Lib.hid z2))
  obtain ⟨G, hG0⟩ : ∃ G, G = w1.heap.size := ⟨_, rfl⟩
  rw [← hG0] at a2 ⊢
  have c2 : Below H w w2 := (bW.trans (b1.mono (Nat.le_of_lt rW.lt))).trans ((b2).mono (Nat.le_trans (Nat.le_of_lt rW.lt) b1.size))
  have r2 := (rW.below b1).below b2
  have hGH : H < G := by rw [hG0]; exact Nat.lt_of_lt_of_le rW.lt b1.size
  replace hG0 := Lib.hid hG0
  have hGe : H ≤ G := Nat.le_of_lt hGH
  go_upto_region 8 with (first
   | ((with_reducible refine wpList_loadF 139 a2 ?_ _ 4 ?_ Tryd.underlying139 ?_ ?_ ?_); rfl; rfl; rfl; kernel_rfl)
   | (go_at_call 93; refine (HS.out w2).mono ?_; rintro e w3 ⟨rfl, b3⟩; have c3 := c2.trans (b3.mono (Nat.le_of_lt r2.lt)); have a3 := a2.below b3)
   | ((with_reducible refine wpList_storeFA 139 c3 a3 hGe (uc V) ?_ ?_ 4 ?_ ?_ ?_ ?_ ?_); rfl; rfl; rfl; kernel_rfl; rfl; rfl; intro w4 a4 b4 k4 z4; replace z4 := Lib.hid z4))
  have r4 : Av w4 H 139 [.int .u64 0, .int .u64 0, .int .u64 0, .int .u64 0] := (r2.below b3).same (k4 _ (Nat.ne_of_lt hGH))
  go_upto_region 9 with (first
   | ((with_reducible refine wpList_loadG 139 a4 ?_ ?_ _ 4 ?_ Tryd.underlying139 ?_ ?_ ?_); rfl; rfl; rfl; rfl; kernel_rfl)
   | ((with_reducible refine wpList_binG (op := .eql) (ty := 139) ?_ ?_ ?_ (HZ.out _ _ w4) ?_); rfl; rfl; rfl))
  go_wp2_with ((with_reducible refine wpList_storeFA 139 b4 r4 (Nat.le_refl _) (uq4 0 0 0 0) ?_ ?_ 4 ?_ ?_ ?_ ?_ ?_); rfl; rfl; rfl; kernel_rfl; rfl; rfl; intro w6 a6 b6 k6 z6; clear k6; replace z6 := Lib.hid z6)
  refine bodyPost_ret (v := .tuple #[.agg (uq4 0 0 0 0).toArray, .int .i64 7]) ((results_cellU (C := uq4 0 0 0 0) (by rfl) (by rfl) a6 _ Tryd.underlying139 rfl 4 rfl (by kernel_rfl)).trans (by rfl)) (by rfl) ?_
  exact ⟨by rw [uc_zero], by rw [← hH.out]; exact b6⟩
 ·have t1 : ((M : Int) != 0) = true := by simp; omega
  have t2 : ((s : Int) == 1) = false := by simp; omega
  clear hE hs hM hj hM0 h0 h3
  go_enter Tryd.func80, Tryd.ntmps80
  go_upto_region 1 with fail
  rw [← hW.out, ← hH.out]
  go_upto_region 5 with (first
   | (go_at_call 81; refine (HO.out W).mono ?_; rintro e w1 ⟨rfl, b1⟩)
   | ((with_reducible refine wpList_storeF 139 ((Below.refl w1.heap.size w1).alloc (Nat.le_refl _) _) (heap_alloc_new _ _) (Nat.le_refl _) (uq4 M 0 0 0) ?_ ?_ 4 ?_ ?_ ?_ ?_ ?_); rfl; rfl; rfl; kernel_rfl; rfl; rfl; intro w2 a2 b2 k2 z2; clear k2; replace z2 := Lib.hid z2))
  obtain ⟨G, hG0⟩ : ∃ G, G = w1.heap.size := ⟨_, rfl⟩
  rw [← hG0] at a2 ⊢
  have c2 : Below H w w2 := (bW.trans (b1.mono (Nat.le_of_lt rW.lt))).trans ((b2).mono (Nat.le_trans (Nat.le_of_lt rW.lt) b1.size))
  have r2 := (rW.below b1).below b2
  have hGH : H < G := by rw [hG0]; exact Nat.lt_of_lt_of_le rW.lt b1.size
  replace hG0 := Lib.hid hG0
  have hGe : H ≤ G := Nat.le_of_lt hGH
  go_upto_region 8 with (first
   | ((with_reducible refine wpList_loadF 139 a2 ?_ _ 4 ?_ Tryd.underlying139 ?_ ?_ ?_); rfl; rfl; rfl; kernel_rfl)
   | (go_at_call 93; refine (HS.out w2).mono ?_; rintro e w3 ⟨rfl, b3⟩; have c3 := c2.trans (b3.mono (Nat.le_of_lt r2.lt)); have a3 := a2.below b3)
   | ((with_reducible refine wpList_storeFA 139 c3 a3 hGe (uc V) ?_ ?_ 4 ?_ ?_ ?_ ?_ ?_); rfl; rfl; rfl; kernel_rfl; rfl; rfl; intro w4 a4 b4 k4 z4; replace z4 := Lib.hid z4))
  have r4 : Av w4 H 139 [.int .u64 0, .int .u64 0, .int .u64 0, .int .u64 0] := (r2.below b3).same (k4 _ (Nat.ne_of_lt hGH))
  go_upto_region 9 with (first
   | ((with_reducible refine wpList_loadG 139 a4 ?_ ?_ _ 4 ?_ Tryd.underlying139 ?_ ?_ ?_); rfl; rfl; rfl; rfl; kernel_rfl)
   | ((with_reducible refine wpList_binG (op := .eql) (ty := 139) ?_ ?_ ?_ (HZ.out _ _ w4) ?_); rfl; rfl; rfl))
  go_wp2_with ((with_reducible refine wpList_storeFA 139 b4 r4 (Nat.le_refl _) (uq4 0 0 0 0) ?_ ?_ 4 ?_ ?_ ?_ ?_ ?_); rfl; rfl; rfl; kernel_rfl; rfl; rfl; intro w6 a6 b6 k6 z6; clear k6; replace z6 := Lib.hid z6)
  refine bodyPost_ret (v := .tuple #[.agg (uq4 0 0 0 0).toArray, .int .i64 7]) ((results_cellU (C := uq4 0 0 0 0) (by rfl) (by rfl) a6 _ Tryd.underlying139 rfl 4 rfl (by kernel_rfl)).trans (by rfl)) (by rfl) ?_
  exact ⟨by rw [uc_zero], by rw [← hH.out]; exact b6⟩
set_option maxRecDepth 10000 in
set_option maxHeartbeats 2000000 in
theorem TExp_lo_fine (b : Nat) (hb : b < 4294967296) (h0 : ¬ (b % 8388608 ≠ 0 ∧ b / 8388608 % 2 = 1)) (h2 : b / 16777216 < 3) (h3 : b % 8388608 / 2 ^ (8 * (3 - b / 16777216)) ≠ 0) (w : World) : Calls Tryd.prog 80 #[.int .u32 (b : Int)] w fun e w' => e = .returned (.tuple #[.agg (uc (b % 8388608 / 2 ^ (8 * (3 - b / 16777216)))).toArray, .int .i64 0]) ∧ Below w.heap.size w w' := by
 obtain ⟨E, hE⟩ : ∃ E : Nat, E = b / 16777216 := ⟨_, rfl⟩
 obtain ⟨s, hs⟩ : ∃ s : Nat, s = b / 8388608 % 2 := ⟨_, rfl⟩
 obtain ⟨M, hM⟩ : ∃ M : Nat, M = b % 8388608 := ⟨_, rfl⟩
 rw [← hM] at h0 h3 ⊢
 have hMl : M < 8388608 := by omega
 have hEl : E < 256 := by omega
 have q1 : (b : Int) / 16777216 = (E : Int) := by omega
 have q2 : bits .and .u32 ((b : Int) / 8388608) 1 = (s : Int) := by
  have := (bits_nat .u32 32 (by decide) wraps_u32 (b / 8388608) 1 (by omega) (by omega)).1
  rw [show b / 8388608 &&& 1 = b / 8388608 % 2 from Nat.and_two_pow_sub_one_eq_mod _ 1, ← hs] at this
  simpa using this
 have q3 : bits .and .u32 (b : Int) 8388607 = (M : Int) := by
  have := (bits_nat .u32 32 (by decide) wraps_u32 b 8388607 (by omega) (by omega)).1
  rw [show b &&& 8388607 = b % 8388608 from Nat.and_two_pow_sub_one_eq_mod _ 23, ← hM] at this
  simpa using this
 have q4 : IntKind.i64.wrap (E : Int) = (E : Int) := by rw [IntKind.wrap_i64]; omega
 have q5 : IntKind.u64.wrap (M : Int) = (M : Int) := by rw [IntKind.wrap_u64]; omega
 obtain ⟨W, hW⟩ : ∃ W, W = w.alloc (.cells #[.int .u64 0, .int .u64 0, .int .u64 0, .int .u64 0] 139) := ⟨_, rfl⟩
 obtain ⟨H, hH⟩ : ∃ H, H = w.heap.size := ⟨_, rfl⟩
 have bW : Below H w W := by rw [hW, hH]; exact (Below.refl _ _).alloc (Nat.le_refl _) _
 have rW : Av W H 139 [.int .u64 0, .int .u64 0, .int .u64 0, .int .u64 0] := by rw [hW, hH]; exact heap_alloc_new _ _
 replace hW := Lib.hid hW
 replace hH := Lib.hid hH
 rw [← hs] at h0
 rw [← hE] at h2 h3 ⊢
 have t4 : decide ((E : Int) < 3) = true := by simp; omega
 obtain ⟨j, hj⟩ : ∃ j : Nat, j = 8 * (3 - E) := ⟨_, rfl⟩
 rw [← hj] at h3 ⊢
 have q6 : IntKind.i64.wrap (3 - (E : Int)) = 3 - (E : Int) := by rw [IntKind.wrap_i64]; omega
 have q7 : IntKind.i64.wrap (8 * (3 - (E : Int))) = (j : Int) := by rw [IntKind.wrap_i64]; omega
 have HS := UShr M j (by omega) (by omega) (by omega)
 have hv : M / 2 ^ j < 18446744073709551616 := Nat.lt_of_le_of_lt (Nat.div_le_self _ _) (by omega)
 rw [← uc_small hv] at HS
 have HZ := fun x y w => eqlZ (M / 2 ^ j) x y w (by omega)
 obtain ⟨V, hV⟩ : ∃ V, V = M / 2 ^ j := ⟨_, rfl⟩
 rw [← hV] at HS HZ h3 ⊢
 rw [show decide (V = 0) = false from decide_eq_false h3] at HZ
 replace HZ := Lib.hid HZ
 have HO := UOf M (by omega)
 rw [uc_small (by omega)] at HO
 replace HS := Lib.hid HS
 replace HO := Lib.hid HO
 replace hV := Lib.hid hV
 by_cases hM0 : M = 0
 ·have t1 : ((M : Int) != 0) = false := by simp; omega
  clear hE hs hM hj hM0 h0 h3
  go_enter Tryd.func80, Tryd.ntmps80
  go_upto_region 1 with fail
  rw [← hW.out, ← hH.out]
  go_upto_region 5 with (first
   | (go_at_call 81; refine (HO.out W).mono ?_; rintro e w1 ⟨rfl, b1⟩)
   | ((with_reducible refine wpList_storeF 139 ((Below.refl w1.heap.size w1).alloc (Nat.le_refl _) _) (heap_alloc_new _ _) (Nat.le_refl _) (uq4 M 0 0 0) ?_ ?_ 4 ?_ ?_ ?_ ?_ ?_); rfl; rfl; rfl; kernel_rfl; rfl; rfl; intro w2 a2 b2 k2 z2; clear k2; replace z2 := Lib.hid z2))
  obtain ⟨G, hG0⟩ : ∃ G, G = w1.heap.size := ⟨_, rfl⟩
  rw [← hG0] at a2 ⊢
  have c2 : Below H w w2 := (bW.trans (b1.mono (Nat.le_of_lt rW.lt))).trans ((b2).mono (Nat.le_trans (Nat.le_of_lt rW.lt) b1.size))
  have r2 := (rW.below b1).below b2
  have hGH : H < G := by rw [hG0]; exact Nat.lt_of_lt_of_le rW.lt b1.size
  replace hG0 := Lib.hid hG0
  have hGe : H ≤ G := Nat.le_of_lt hGH
  go_upto_region 8 with (first
   | ((with_reducible refine wpList_loadF 139 a2 ?_ _ 4 ?_ Tryd.underlying139 ?_ ?_ ?_); rfl; rfl; rfl; kernel_rfl)
   | (go_at_call 93; refine (HS.out w2).mono ?_; rintro e w3 ⟨rfl, b3⟩; have c3 := c2.trans (b3.mono (Nat.le_of_lt r2.lt)); have a3 := a2.below b3)
   | ((with_reducible refine wpList_storeFA 139 c3 a3 hGe (uc V) ?_ ?_ 4 ?_ ?_ ?_ ?_ ?_); rfl; rfl; rfl; kernel_rfl; rfl; rfl; intro w4 a4 b4 k4 z4; replace z4 := Lib.hid z4))
  have r4 : Av w4 H 139 [.int .u64 0, .int .u64 0, .int .u64 0, .int .u64 0] := (r2.below b3).same (k4 _ (Nat.ne_of_lt hGH))
  go_upto_region 10 with (first
   | ((with_reducible refine wpList_loadG 139 a4 ?_ ?_ _ 4 ?_ Tryd.underlying139 ?_ ?_ ?_); rfl; rfl; rfl; rfl; kernel_rfl)
   | ((with_reducible refine wpList_binG (op := .eql) (ty := 139) ?_ ?_ ?_ (HZ.out _ _ w4) ?_); rfl; rfl; rfl))
  go_wp2_with (first
   | ((with_reducible refine wpList_loadF 139 a4 ?_ _ 4 ?_ Tryd.underlying139 ?_ ?_ ?_); rfl; rfl; rfl; kernel_rfl)
   | ((with_reducible refine wpList_storeFA 139 b4 r4 (Nat.le_refl _) (uc V) ?_ ?_ 4 ?_ ?_ ?_ ?_ ?_); rfl; rfl; rfl; kernel_rfl; rfl; rfl; intro w6 a6 b6 k6 z6; clear k6; replace z6 := Lib.hid z6))
  refine bodyPost_ret (v := .tuple #[.agg (uc V).toArray, .int .i64 0]) ((results_cellU (C := uc V) (by rfl) (by rfl) a6 _ Tryd.underlying139 rfl 4 rfl (by kernel_rfl)).trans (by rfl)) (by rfl) ?_
  exact ⟨rfl, by rw [← hH.out]; exact b6⟩
 ·have t1 : ((M : Int) != 0) = true := by simp; omega
  have t2 : ((s : Int) == 1) = false := by simp; omega
  clear hE hs hM hj hM0 h0 h3
  go_enter Tryd.func80, Tryd.ntmps80
  go_upto_region 1 with fail
  rw [← hW.out, ← hH.out]
  go_upto_region 5 with (first
   | (go_at_call 81; refine (HO.out W).mono ?_; rintro e w1 ⟨rfl, b1⟩)
   | ((with_reducible refine wpList_storeF 139 ((Below.refl w1.heap.size w1).alloc (Nat.le_refl _) _) (heap_alloc_new _ _) (Nat.le_refl _) (uq4 M 0 0 0) ?_ ?_ 4 ?_ ?_ ?_ ?_ ?_); rfl; rfl; rfl; kernel_rfl; rfl; rfl; intro w2 a2 b2 k2 z2; clear k2; replace z2 := Lib.hid z2))
  obtain ⟨G, hG0⟩ : ∃ G, G = w1.heap.size := ⟨_, rfl⟩
  rw [← hG0] at a2 ⊢
  have c2 : Below H w w2 := (bW.trans (b1.mono (Nat.le_of_lt rW.lt))).trans ((b2).mono (Nat.le_trans (Nat.le_of_lt rW.lt) b1.size))
  have r2 := (rW.below b1).below b2
  have hGH : H < G := by rw [hG0]; exact Nat.lt_of_lt_of_le rW.lt b1.size
  replace hG0 := Lib.hid hG0
  have hGe : H ≤ G := Nat.le_of_lt hGH
  go_upto_region 8 with (first
   | ((with_reducible refine wpList_loadF 139 a2 ?_ _ 4 ?_ Tryd.underlying139 ?_ ?_ ?_); rfl; rfl; rfl; kernel_rfl)
   | (go_at_call 93; refine (HS.out w2).mono ?_; rintro e w3 ⟨rfl, b3⟩; have c3 := c2.trans (b3.mono (Nat.le_of_lt r2.lt)); have a3 := a2.below b3)
   | ((with_reducible refine wpList_storeFA 139 c3 a3 hGe (uc V) ?_ ?_ 4 ?_ ?_ ?_ ?_ ?_); rfl; rfl; rfl; kernel_rfl; rfl; rfl; intro w4 a4 b4 k4 z4; replace z4 := Lib.hid z4))
  have r4 : Av w4 H 139 [.int .u64 0, .int .u64 0, .int .u64 0, .int .u64 0] := (r2.below b3).same (k4 _ (Nat.ne_of_lt hGH))
  go_upto_region 10 with (first
   | ((with_reducible refine wpList_loadG 139 a4 ?_ ?_ _ 4 ?_ Tryd.underlying139 ?_ ?_ ?_); rfl; rfl; rfl; rfl; kernel_rfl)
   | ((with_reducible refine wpList_binG (op := .eql) (ty := 139) ?_ ?_ ?_ (HZ.out _ _ w4) ?_); rfl; rfl; rfl))
  go_wp2_with (first
   | ((with_reducible refine wpList_loadF 139 a4 ?_ _ 4 ?_ Tryd.underlying139 ?_ ?_ ?_); rfl; rfl; rfl; kernel_rfl)
   | ((with_reducible refine wpList_storeFA 139 b4 r4 (Nat.le_refl _) (uc V) ?_ ?_ 4 ?_ ?_ ?_ ?_ ?_); rfl; rfl; rfl; kernel_rfl; rfl; rfl; intro w6 a6 b6 k6 z6; clear k6; replace z6 := Lib.hid z6))
  refine bodyPost_ret (v := .tuple #[.agg (uc V).toArray, .int .i64 0]) ((results_cellU (C := uc V) (by rfl) (by rfl) a6 _ Tryd.underlying139 rfl 4 rfl (by kernel_rfl)).trans (by rfl)) (by rfl) ?_
  exact ⟨rfl, by rw [← hH.out]; exact b6⟩
set_option maxRecDepth 10000 in
set_option maxHeartbeats 2000000 in
theorem TExp_hi_over (b : Nat) (hb : b < 4294967296) (h0 : ¬ (b % 8388608 ≠ 0 ∧ b / 8388608 % 2 = 1)) (h2 : 3 ≤ b / 16777216) (h3 : 115792089237316195423570985008687907853269984665640564039457584007913129639936 ≤ b % 8388608 * 2 ^ (8 * (b / 16777216 - 3))) (w : World) : Calls Tryd.prog 80 #[.int .u32 (b : Int)] w fun e w' => e = .returned (.tuple #[.agg (uc 0).toArray, .int .i64 7]) ∧ Below w.heap.size w w' := by
 obtain ⟨E, hE⟩ : ∃ E : Nat, E = b / 16777216 := ⟨_, rfl⟩
 obtain ⟨s, hs⟩ : ∃ s : Nat, s = b / 8388608 % 2 := ⟨_, rfl⟩
 obtain ⟨M, hM⟩ : ∃ M : Nat, M = b % 8388608 := ⟨_, rfl⟩
 rw [← hM] at h0 h3
 have hMl : M < 8388608 := by omega
 have hEl : E < 256 := by omega
 have q1 : (b : Int) / 16777216 = (E : Int) := by omega
 have q2 : bits .and .u32 ((b : Int) / 8388608) 1 = (s : Int) := by
  have := (bits_nat .u32 32 (by decide) wraps_u32 (b / 8388608) 1 (by omega) (by omega)).1
  rw [show b / 8388608 &&& 1 = b / 8388608 % 2 from Nat.and_two_pow_sub_one_eq_mod _ 1, ← hs] at this
  simpa using this
 have q3 : bits .and .u32 (b : Int) 8388607 = (M : Int) := by
  have := (bits_nat .u32 32 (by decide) wraps_u32 b 8388607 (by omega) (by omega)).1
  rw [show b &&& 8388607 = b % 8388608 from Nat.and_two_pow_sub_one_eq_mod _ 23, ← hM] at this
  simpa using this
 have q4 : IntKind.i64.wrap (E : Int) = (E : Int) := by rw [IntKind.wrap_i64]; omega
 have q5 : IntKind.u64.wrap (M : Int) = (M : Int) := by rw [IntKind.wrap_u64]; omega
 obtain ⟨W, hW⟩ : ∃ W, W = w.alloc (.cells #[.int .u64 0, .int .u64 0, .int .u64 0, .int .u64 0] 139) := ⟨_, rfl⟩
 obtain ⟨H, hH⟩ : ∃ H, H = w.heap.size := ⟨_, rfl⟩
 have bW : Below H w W := by rw [hW, hH]; exact (Below.refl _ _).alloc (Nat.le_refl _) _
 have rW : Av W H 139 [.int .u64 0, .int .u64 0, .int .u64 0, .int .u64 0] := by rw [hW, hH]; exact heap_alloc_new _ _
 replace hW := Lib.hid hW
 replace hH := Lib.hid hH
 rw [← hs] at h0
 rw [← hE] at h2 h3
 have t4 : decide ((E : Int) < 3) = false := by simp; omega
 obtain ⟨j, hj⟩ : ∃ j : Nat, j = 8 * (E - 3) := ⟨_, rfl⟩
 rw [← hj] at h3
 have q6 : IntKind.i64.wrap ((E : Int) - 3) = (E : Int) - 3 := by rw [IntKind.wrap_i64]; omega
 have q7 : IntKind.i64.wrap (8 * ((E : Int) - 3)) = (j : Int) := by rw [IntKind.wrap_i64]; omega
 have HS := UShl M j (by omega)
 rw [show decide (115792089237316195423570985008687907853269984665640564039457584007913129639936 ≤ M * 2 ^ j) = true from decide_eq_true h3] at HS
 obtain ⟨V, hV⟩ : ∃ V, V = M * 2 ^ j % 115792089237316195423570985008687907853269984665640564039457584007913129639936 := ⟨_, rfl⟩
 rw [← hV] at HS
 have HO := UOf M (by omega)
 rw [uc_small (by omega)] at HO
 replace HS := Lib.hid HS
 replace HO := Lib.hid HO
 replace hV := Lib.hid hV
 by_cases hM0 : M = 0
 ·have t1 : ((M : Int) != 0) = false := by simp; omega
  clear hE hs hM hj hM0 h0 h3
  go_enter Tryd.func80, Tryd.ntmps80
  go_upto_region 1 with fail
  rw [← hW.out, ← hH.out]
  go_upto_region 5 with (first
   | (go_at_call 81; refine (HO.out W).mono ?_; rintro e w1 ⟨rfl, b1⟩)
   | ((with_reducible refine wpList_storeF 139 ((Below.refl w1.heap.size w1).alloc (Nat.le_refl _) _) (heap_alloc_new _ _) (Nat.le_refl _) (uq4 M 0 0 0) ?_ ?_ 4 ?_ ?_ ?_ ?_ ?_); rfl; rfl; rfl; kernel_rfl; rfl; rfl; intro w2 a2 b2 k2 z2; clear k2; replace z2 := Lib.hid z2))
  obtain ⟨G, hG0⟩ : ∃ G, G = w1.heap.size := ⟨_, rfl⟩
  rw [← hG0] at a2 ⊢
  have c2 : Below H w w2 := (bW.trans (b1.mono (Nat.le_of_lt rW.lt))).trans ((b2).mono (Nat.le_trans (Nat.le_of_lt rW.lt) b1.size))
  have r2 := (rW.below b1).below b2
  have hGH : H < G := by rw [hG0]; exact Nat.lt_of_lt_of_le rW.lt b1.size
  replace hG0 := Lib.hid hG0
  have hGe : H ≤ G := Nat.le_of_lt hGH
  go_upto_region 8 with (first
   | ((with_reducible refine wpList_loadF 139 a2 ?_ _ 4 ?_ Tryd.underlying139 ?_ ?_ ?_); rfl; rfl; rfl; kernel_rfl)
   | (go_at_call 94; refine (HS.out w2).mono ?_; rintro e w3 ⟨rfl, b3⟩; have c3 := c2.trans (b3.mono (Nat.le_of_lt r2.lt)); have a3 := a2.below b3)
   | ((with_reducible refine wpList_storeFA 139 c3 a3 hGe (uc V) ?_ ?_ 4 ?_ ?_ ?_ ?_ ?_); rfl; rfl; rfl; kernel_rfl; rfl; rfl; intro w4 a4 b4 k4 z4; replace z4 := Lib.hid z4))
  have r4 : Av w4 H 139 [.int .u64 0, .int .u64 0, .int .u64 0, .int .u64 0] := (r2.below b3).same (k4 _ (Nat.ne_of_lt hGH))
  go_wp2_with ((with_reducible refine wpList_storeFA 139 b4 r4 (Nat.le_refl _) (uq4 0 0 0 0) ?_ ?_ 4 ?_ ?_ ?_ ?_ ?_); rfl; rfl; rfl; kernel_rfl; rfl; rfl; intro w6 a6 b6 k6 z6; clear k6; replace z6 := Lib.hid z6)
  refine bodyPost_ret (v := .tuple #[.agg (uq4 0 0 0 0).toArray, .int .i64 7]) ((results_cellU (C := uq4 0 0 0 0) (by rfl) (by rfl) a6 _ Tryd.underlying139 rfl 4 rfl (by kernel_rfl)).trans (by rfl)) (by rfl) ?_
  exact ⟨by rw [uc_zero], by rw [← hH.out]; exact b6⟩
 ·have t1 : ((M : Int) != 0) = true := by simp; omega
  have t2 : ((s : Int) == 1) = false := by simp; omega
  clear hE hs hM hj hM0 h0 h3
  go_enter Tryd.func80, Tryd.ntmps80
  go_upto_region 1 with fail
  rw [← hW.out, ← hH.out]
  go_upto_region 5 with (first
   | (go_at_call 81; refine (HO.out W).mono ?_; rintro e w1 ⟨rfl, b1⟩)
   | ((with_reducible refine wpList_storeF 139 ((Below.refl w1.heap.size w1).alloc (Nat.le_refl _) _) (heap_alloc_new _ _) (Nat.le_refl _) (uq4 M 0 0 0) ?_ ?_ 4 ?_ ?_ ?_ ?_ ?_); rfl; rfl; rfl; kernel_rfl; rfl; rfl; intro w2 a2 b2 k2 z2; clear k2; replace z2 := Lib.hid z2))
  obtain ⟨G, hG0⟩ : ∃ G, G = w1.heap.size := ⟨_, rfl⟩
  rw [← hG0] at a2 ⊢
  have c2 : Below H w w2 := (bW.trans (b1.mono (Nat.le_of_lt rW.lt))).trans ((b2).mono (Nat.le_trans (Nat.le_of_lt rW.lt) b1.size))
  have r2 := (rW.below b1).below b2
  have hGH : H < G := by rw [hG0]; exact Nat.lt_of_lt_of_le rW.lt b1.size
  replace hG0 := Lib.hid hG0
  have hGe : H ≤ G := Nat.le_of_lt hGH
  go_upto_region 8 with (first
   | ((with_reducible refine wpList_loadF 139 a2 ?_ _ 4 ?_ Tryd.underlying139 ?_ ?_ ?_); rfl; rfl; rfl; kernel_rfl)
   | (go_at_call 94; refine (HS.out w2).mono ?_; rintro e w3 ⟨rfl, b3⟩; have c3 := c2.trans (b3.mono (Nat.le_of_lt r2.lt)); have a3 := a2.below b3)
   | ((with_reducible refine wpList_storeFA 139 c3 a3 hGe (uc V) ?_ ?_ 4 ?_ ?_ ?_ ?_ ?_); rfl; rfl; rfl; kernel_rfl; rfl; rfl; intro w4 a4 b4 k4 z4; replace z4 := Lib.hid z4))
  have r4 : Av w4 H 139 [.int .u64 0, .int .u64 0, .int .u64 0, .int .u64 0] := (r2.below b3).same (k4 _ (Nat.ne_of_lt hGH))
  go_wp2_with ((with_reducible refine wpList_storeFA 139 b4 r4 (Nat.le_refl _) (uq4 0 0 0 0) ?_ ?_ 4 ?_ ?_ ?_ ?_ ?_); rfl; rfl; rfl; kernel_rfl; rfl; rfl; intro w6 a6 b6 k6 z6; clear k6; replace z6 := Lib.hid z6)
  refine bodyPost_ret (v := .tuple #[.agg (uq4 0 0 0 0).toArray, .int .i64 7]) ((results_cellU (C := uq4 0 0 0 0) (by rfl) (by rfl) a6 _ Tryd.underlying139 rfl 4 rfl (by kernel_rfl)).trans (by rfl)) (by rfl) ?_
  exact ⟨by rw [uc_zero], by rw [← hH.out]; exact b6⟩
set_option maxRecDepth 10000 in
set_option maxHeartbeats 2000000 in
theorem TExp_hi_zero (b : Nat) (hb : b < 4294967296) (h0 : ¬ (b % 8388608 ≠ 0 ∧ b / 8388608 % 2 = 1)) (h2 : 3 ≤ b / 16777216) (h3 : b % 8388608 * 2 ^ (8 * (b / 16777216 - 3)) < 115792089237316195423570985008687907853269984665640564039457584007913129639936) (h4 : b % 8388608 * 2 ^ (8 * (b / 16777216 - 3)) = 0) (w : World) : Calls Tryd.prog 80 #[.int .u32 (b : Int)] w fun e w' => e = .returned (.tuple #[.agg (uc 0).toArray, .int .i64 7]) ∧ Below w.heap.size w w' := by
 obtain ⟨E, hE⟩ : ∃ E : Nat, E = b / 16777216 := ⟨_, rfl⟩
 obtain ⟨s, hs⟩ : ∃ s : Nat, s = b / 8388608 % 2 := ⟨_, rfl⟩
 obtain ⟨M, hM⟩ : ∃ M : Nat, M = b % 8388608 := ⟨_, rfl⟩
 rw [← hM] at h0 h3 h4
 have hMl : M < 8388608 := by omega
 have hEl : E < 256 := by omega
 have q1 : (b : Int) / 16777216 = (E : Int) := by omega
 have q2 : bits .and .u32 ((b : Int) / 8388608) 1 = (s : Int) := by
  have := (bits_nat .u32 32 (by decide) wraps_u32 (b / 8388608) 1 (by omega) (by omega)).1
  rw [show b / 8388608 &&& 1 = b / 8388608 % 2 from Nat.and_two_pow_sub_one_eq_mod _ 1, ← hs] at this
  simpa using this
 have q3 : bits .and .u32 (b : Int) 8388607 = (M : Int) := by
  have := (bits_nat .u32 32 (by decide) wraps_u32 b 8388607 (by omega) (by omega)).1
  rw [show b &&& 8388607 = b % 8388608 from Nat.and_two_pow_sub_one_eq_mod _ 23, ← hM] at this
  simpa using this
 have q4 : IntKind.i64.wrap (E : Int) = (E : Int) := by rw [IntKind.wrap_i64]; omega
 have q5 : IntKind.u64.wrap (M : Int) = (M : Int) := by rw [IntKind.wrap_u64]; omega
 obtain ⟨W, hW⟩ : ∃ W, W = w.alloc (.cells #[.int .u64 0, .int .u64 0, .int .u64 0, .int .u64 0] 139) := ⟨_, rfl⟩
 obtain ⟨H, hH⟩ : ∃ H, H = w.heap.size := ⟨_, rfl⟩
 have bW : Below H w W := by rw [hW, hH]; exact (Below.refl _ _).alloc (Nat.le_refl _) _
 have rW : Av W H 139 [.int .u64 0, .int .u64 0, .int .u64 0, .int .u64 0] := by rw [hW, hH]; exact heap_alloc_new _ _
 replace hW := Lib.hid hW
 replace hH := Lib.hid hH
 rw [← hs] at h0
 rw [← hE] at h2 h3 h4
 have t4 : decide ((E : Int) < 3) = false := by simp; omega
 obtain ⟨j, hj⟩ : ∃ j : Nat, j = 8 * (E - 3) := ⟨_, rfl⟩
 rw [← hj] at h3 h4
 have q6 : IntKind.i64.wrap ((E : Int) - 3) = (E : Int) - 3 := by rw [IntKind.wrap_i64]; omega
 have q7 : IntKind.i64.wrap (8 * ((E : Int) - 3)) = (j : Int) := by rw [IntKind.wrap_i64]; omega
 have HS := UShl M j (by omega)
 rw [show decide (115792089237316195423570985008687907853269984665640564039457584007913129639936 ≤ M * 2 ^ j) = false from decide_eq_false (by omega), Nat.mod_eq_of_lt h3] at HS
 have HZ := fun x y w => eqlZ (M * 2 ^ j) x y w h3
 obtain ⟨V, hV⟩ : ∃ V, V = M * 2 ^ j := ⟨_, rfl⟩
 rw [← hV] at HS HZ h4
 rw [show decide (V = 0) = true from decide_eq_true h4] at HZ
 replace HZ := Lib.hid HZ
 have HO := UOf M (by omega)
 rw [uc_small (by omega)] at HO
 replace HS := Lib.hid HS
 replace HO := Lib.hid HO
 replace hV := Lib.hid hV
 by_cases hM0 : M = 0
 ·have t1 : ((M : Int) != 0) = false := by simp; omega
  clear hE hs hM hj hM0 h0 h3 h4
  go_enter Tryd.func80, Tryd.ntmps80
  go_upto_region 1 with fail
  rw [← hW.out, ← hH.out]
  go_upto_region 5 with (first
   | (go_at_call 81; refine (HO.out W).mono ?_; rintro e w1 ⟨rfl, b1⟩)
   | ((with_reducible refine wpList_storeF 139 ((Below.refl w1.heap.size w1).alloc (Nat.le_refl _) _) (heap_alloc_new _ _) (Nat.le_refl _) (uq4 M 0 0 0) ?_ ?_ 4 ?_ ?_ ?_ ?_ ?_); rfl; rfl; rfl; kernel_rfl; rfl; rfl; intro w2 a2 b2 k2 z2; clear k2; replace z2 := Lib.hid z2))
  obtain ⟨G, hG0⟩ : ∃ G, G = w1.heap.size := ⟨_, rfl⟩
  rw [← hG0] at a2 ⊢
  have c2 : Below H w w2 := (bW.trans (b1.mono (Nat.le_of_lt rW.lt))).trans ((b2).mono (Nat.le_trans (Nat.le_of_lt rW.lt) b1.size))
  have r2 := (rW.below b1).below b2
  have hGH : H < G := by rw [hG0]; exact Nat.lt_of_lt_of_le rW.lt b1.size
  replace hG0 := Lib.hid hG0
  have hGe : H ≤ G := Nat.le_of_lt hGH
  go_upto_region 8 with (first
   | ((with_reducible refine wpList_loadF 139 a2 ?_ _ 4 ?_ Tryd.underlying139 ?_ ?_ ?_); rfl; rfl; rfl; kernel_rfl)
   | (go_at_call 94; refine (HS.out w2).mono ?_; rintro e w3 ⟨rfl, b3⟩; have c3 := c2.trans (b3.mono (Nat.le_of_lt r2.lt)); have a3 := a2.below b3)
   | ((with_reducible refine wpList_storeFA 139 c3 a3 hGe (uc V) ?_ ?_ 4 ?_ ?_ ?_ ?_ ?_); rfl; rfl; rfl; kernel_rfl; rfl; rfl; intro w4 a4 b4 k4 z4; replace z4 := Lib.hid z4))
  have r4 : Av w4 H 139 [.int .u64 0, .int .u64 0, .int .u64 0, .int .u64 0] := (r2.below b3).same (k4 _ (Nat.ne_of_lt hGH))
  go_upto_region 9 with (first
   | ((with_reducible refine wpList_loadG 139 a4 ?_ ?_ _ 4 ?_ Tryd.underlying139 ?_ ?_ ?_); rfl; rfl; rfl; rfl; kernel_rfl)
   | ((with_reducible refine wpList_binG (op := .eql) (ty := 139) ?_ ?_ ?_ (HZ.out _ _ w4) ?_); rfl; rfl; rfl))
  go_wp2_with ((with_reducible refine wpList_storeFA 139 b4 r4 (Nat.le_refl _) (uq4 0 0 0 0) ?_ ?_ 4 ?_ ?_ ?_ ?_ ?_); rfl; rfl; rfl; kernel_rfl; rfl; rfl; intro w6 a6 b6 k6 z6; clear k6; replace z6 := Lib.hid z6)
  refine bodyPost_ret (v := .tuple #[.agg (uq4 0 0 0 0).toArray, .int .i64 7]) ((results_cellU (C := uq4 0 0 0 0) (by rfl) (by rfl) a6 _ Tryd.underlying139 rfl 4 rfl (by kernel_rfl)).trans (by rfl)) (by rfl) ?_
  exact ⟨by rw [uc_zero], by rw [← hH.out]; exact b6⟩
 ·have t1 : ((M : Int) != 0) = true := by simp; omega
  have t2 : ((s : Int) == 1) = false := by simp; omega
  clear hE hs hM hj hM0 h0 h3 h4
  go_enter Tryd.func80, Tryd.ntmps80
  go_upto_region 1 with fail
  rw [← hW.out, ← hH.out]
  go_upto_region 5 with (first
   | (go_at_call 81; refine (HO.out W).mono ?_; rintro e w1 ⟨rfl, b1⟩)
   | ((with_reducible refine wpList_storeF 139 ((Below.refl w1.heap.size w1).alloc (Nat.le_refl _) _) (heap_alloc_new _ _) (Nat.le_refl _) (uq4 M 0 0 0) ?_ ?_ 4 ?_ ?_ ?_ ?_ ?_); rfl; rfl; rfl; kernel_rfl; rfl; rfl; intro w2 a2 b2 k2 z2; clear k2; replace z2 := Lib.hid z2))
  obtain ⟨G, hG0⟩ : ∃ G, G = w1.heap.size := ⟨_, rfl⟩
  rw [← hG0] at a2 ⊢
  have c2 : Below H w w2 := (bW.trans (b1.mono (Nat.le_of_lt rW.lt))).trans ((b2).mono (Nat.le_trans (Nat.le_of_lt rW.lt) b1.size))
  have r2 := (rW.below b1).below b2
  have hGH : H < G := by rw [hG0]; exact Nat.lt_of_lt_of_le rW.lt b1.size
  replace hG0 := Lib.hid hG0
  have hGe : H ≤ G := Nat.le_of_lt hGH
  go_upto_region 8 with (first
   | ((with_reducible refine wpList_loadF 139 a2 ?_ _ 4 ?_ Tryd.underlying139 ?_ ?_ ?_); rfl; rfl; rfl; kernel_rfl)
   | (go_at_call 94; refine (HS.out w2).mono ?_; rintro e w3 ⟨rfl, b3⟩; have c3 := c2.trans (b3.mono (Nat.le_of_lt r2.lt)); have a3 := a2.below b3)
   | ((with_reducible refine wpList_storeFA 139 c3 a3 hGe (uc V) ?_ ?_ 4 ?_ ?_ ?_ ?_ ?_); rfl; rfl; rfl; kernel_rfl; rfl; rfl; intro w4 a4 b4 k4 z4; replace z4 := Lib.hid z4))
  have r4 : Av w4 H 139 [.int .u64 0, .int .u64 0, .int .u64 0, .int .u64 0] := (r2.below b3).same (k4 _ (Nat.ne_of_lt hGH))
  go_upto_region 9 with (first
   | ((with_reducible refine wpList_loadG 139 a4 ?_ ?_ _ 4 ?_ Tryd.underlying139 ?_ ?_ ?_); rfl; rfl; rfl; rfl; kernel_rfl)
   | ((with_reducible refine wpList_binG (op := .eql) (ty := 139) ?_ ?_ ?_ (HZ.out _ _ w4) ?_); rfl; rfl; rfl))
  go_wp2_with ((with_reducible refine wpList_storeFA 139 b4 r4 (Nat.le_refl _) (uq4 0 0 0 0) ?_ ?_ 4 ?_ ?_ ?_ ?_ ?_); rfl; rfl; rfl; kernel_rfl; rfl; rfl; intro w6 a6 b6 k6 z6; clear k6; replace z6 := Lib.hid z6)
  refine bodyPost_ret (v := .tuple #[.agg (uq4 0 0 0 0).toArray, .int .i64 7]) ((results_cellU (C := uq4 0 0 0 0) (by rfl) (by rfl) a6 _ Tryd.underlying139 rfl 4 rfl (by kernel_rfl)).trans (by rfl)) (by rfl) ?_
  exact ⟨by rw [uc_zero], by rw [← hH.out]; exact b6⟩
set_option maxRecDepth 10000 in
set_option maxHeartbeats 2000000 in
theorem TExp_hi_fine (b : Nat) (hb : b < 4294967296) (h0 : ¬ (b % 8388608 ≠ 0 ∧ b / 8388608 % 2 = 1)) (h2 : 3 ≤ b / 16777216) (h3 : b % 8388608 * 2 ^ (8 * (b / 16777216 - 3)) < 115792089237316195423570985008687907853269984665640564039457584007913129639936) (h4 : b % 8388608 * 2 ^ (8 * (b / 16777216 - 3)) ≠ 0) (w : World) : Calls Tryd.prog 80 #[.int .u32 (b : Int)] w fun e w' => e = .returned (.tuple #[.agg (uc (b % 8388608 * 2 ^ (8 * (b / 16777216 - 3)))).toArray, .int .i64 0]) ∧ Below w.heap.size w w' := by
 obtain ⟨E, hE⟩ : ∃ E : Nat, E = b / 16777216 := ⟨_, rfl⟩
 obtain ⟨s, hs⟩ : ∃ s : Nat, s = b / 8388608 % 2 := ⟨_, rfl⟩
 obtain ⟨M, hM⟩ : ∃ M : Nat, M = b % 8388608 := ⟨_, rfl⟩
 rw [← hM] at h0 h3 h4 ⊢
 have hMl : M < 8388608 := by omega
 have hEl : E < 256 := by omega
 have q1 : (b : Int) / 16777216 = (E : Int) := by omega
 have q2 : bits .and .u32 ((b : Int) / 8388608) 1 = (s : Int) := by
  have := (bits_nat .u32 32 (by decide) wraps_u32 (b / 8388608) 1 (by omega) (by omega)).1
  rw [show b / 8388608 &&& 1 = b / 8388608 % 2 from Nat.and_two_pow_sub_one_eq_mod _ 1, ← hs] at this
  simpa using this
 have q3 : bits .and .u32 (b : Int) 8388607 = (M : Int) := by
  have := (bits_nat .u32 32 (by decide) wraps_u32 b 8388607 (by omega) (by omega)).1
  rw [show b &&& 8388607 = b % 8388608 from Nat.and_two_pow_sub_one_eq_mod _ 23, ← hM] at this
  simpa using this
 have q4 : IntKind.i64.wrap (E : Int) = (E : Int) := by rw [IntKind.wrap_i64]; omega
 have q5 : IntKind.u64.wrap (M : Int) = (M : Int) := by rw [IntKind.wrap_u64]; omega
 obtain ⟨W, hW⟩ : ∃ W, W = w.alloc (.cells #[.int .u64 0, .int .u64 0, .int .u64 0, .int .u64 0] 139) := ⟨_, rfl⟩
 obtain ⟨H, hH⟩ : ∃ H, H = w.heap.size := ⟨_, rfl⟩
 have bW : Below H w W := by rw [hW, hH]; exact (Below.refl _ _).alloc (Nat.le_refl _) _
 have rW : Av W H 139 [.int .u64 0, .int .u64 0, .int .u64 0, .int .u64 0] := by rw [hW, hH]; exact heap_alloc_new _ _
 replace hW := Lib.hid hW
 replace hH := Lib.hid hH
 rw [← hs] at h0
 rw [← hE] at h2 h3 h4 ⊢
 have t4 : decide ((E : Int) < 3) = false := by simp; omega
 obtain ⟨j, hj⟩ : ∃ j : Nat, j = 8 * (E - 3) := ⟨_, rfl⟩
 rw [← hj] at h3 h4 ⊢
 have q6 : IntKind.i64.wrap ((E : Int) - 3) = (E : Int) - 3 := by rw [IntKind.wrap_i64]; omega
 have q7 : IntKind.i64.wrap (8 * ((E : Int) - 3)) = (j : Int) := by rw [IntKind.wrap_i64]; omega
 have HS := UShl M j (by omega)
 rw [show decide (115792089237316195423570985008687907853269984665640564039457584007913129639936 ≤ M * 2 ^ j) = false from decide_eq_false (by omega), Nat.mod_eq_of_lt h3] at HS
 have HZ := fun x y w => eqlZ (M * 2 ^ j) x y w h3
 obtain ⟨V, hV⟩ : ∃ V, V = M * 2 ^ j := ⟨_, rfl⟩
 rw [← hV] at HS HZ h4 ⊢
 rw [show decide (V = 0) = false from decide_eq_false h4] at HZ
 replace HZ := Lib.hid HZ
 have HO := UOf M (by omega)
 rw [uc_small (by omega)] at HO
 replace HS := Lib.hid HS
 replace HO := Lib.hid HO
 replace hV := Lib.hid hV
 by_cases hM0 : M = 0
 ·have t1 : ((M : Int) != 0) = false := by simp; omega
  clear hE hs hM hj hM0 h0 h3 h4
  go_enter Tryd.func80, Tryd.ntmps80
  go_upto_region 1 with fail
  rw [← hW.out, ← hH.out]
  go_upto_region 5 with (first
   | (go_at_call 81; refine (HO.out W).mono ?_; rintro e w1 ⟨rfl, b1⟩)
   | ((with_reducible refine wpList_storeF 139 ((Below.refl w1.heap.size w1).alloc (Nat.le_refl _) _) (heap_alloc_new _ _) (Nat.le_refl _) (uq4 M 0 0 0) ?_ ?_ 4 ?_ ?_ ?_ ?_ ?_); rfl; rfl; rfl; kernel_rfl; rfl; rfl; intro w2 a2 b2 k2 z2; clear k2; replace z2 := Lib.hid z2))
  obtain ⟨G, hG0⟩ : ∃ G, G = w1.heap.size := ⟨_, rfl⟩
  rw [← hG0] at a2 ⊢
  have c2 : Below H w w2 := (bW.trans (b1.mono (Nat.le_of_lt rW.lt))).trans ((b2).mono (Nat.le_trans (Nat.le_of_lt rW.lt) b1.size))
  have r2 := (rW.below b1).below b2
  have hGH : H < G := by rw [hG0]; exact Nat.lt_of_lt_of_le rW.lt b1.size
  replace hG0 := Lib.hid hG0
  have hGe : H ≤ G := Nat.le_of_lt hGH
  go_upto_region 8 with (first
   | ((with_reducible refine wpList_loadF 139 a2 ?_ _ 4 ?_ Tryd.underlying139 ?_ ?_ ?_); rfl; rfl; rfl; kernel_rfl)
   | (go_at_call 94; refine (HS.out w2).mono ?_; rintro e w3 ⟨rfl, b3⟩; have c3 := c2.trans (b3.mono (Nat.le_of_lt r2.lt)); have a3 := a2.below b3)
   | ((with_reducible refine wpList_storeFA 139 c3 a3 hGe (uc V) ?_ ?_ 4 ?_ ?_ ?_ ?_ ?_); rfl; rfl; rfl; kernel_rfl; rfl; rfl; intro w4 a4 b4 k4 z4; replace z4 := Lib.hid z4))
  have r4 : Av w4 H 139 [.int .u64 0, .int .u64 0, .int .u64 0, .int .u64 0] := (r2.below b3).same (k4 _ (Nat.ne_of_lt hGH))
  go_upto_region 10 with (first
   | ((with_reducible refine wpList_loadG 139 a4 ?_ ?_ _ 4 ?_ Tryd.underlying139 ?_ ?_ ?_); rfl; rfl; rfl; rfl; kernel_rfl)
   | ((with_reducible refine wpList_binG (op := .eql) (ty := 139) ?_ ?_ ?_ (HZ.out _ _ w4) ?_); rfl; rfl; rfl))
  go_wp2_with (first
   | ((with_reducible refine wpList_loadF 139 a4 ?_ _ 4 ?_ Tryd.underlying139 ?_ ?_ ?_); rfl; rfl; rfl; kernel_rfl)
   | ((with_reducible refine wpList_storeFA 139 b4 r4 (Nat.le_refl _) (uc V) ?_ ?_ 4 ?_ ?_ ?_ ?_ ?_); rfl; rfl; rfl; kernel_rfl; rfl; rfl; intro w6 a6 b6 k6 z6; clear k6; replace z6 := Lib.hid z6))
  refine bodyPost_ret (v := .tuple #[.agg (uc V).toArray, .int .i64 0]) ((results_cellU (C := uc V) (by rfl) (by rfl) a6 _ Tryd.underlying139 rfl 4 rfl (by kernel_rfl)).trans (by rfl)) (by rfl) ?_
  exact ⟨rfl, by rw [← hH.out]; exact b6⟩
 ·have t1 : ((M : Int) != 0) = true := by simp; omega
  have t2 : ((s : Int) == 1) = false := by simp; omega
  clear hE hs hM hj hM0 h0 h3 h4
  go_enter Tryd.func80, Tryd.ntmps80
  go_upto_region 1 with fail
  rw [← hW.out, ← hH.out]
  go_upto_region 5 with (first
   | (go_at_call 81; refine (HO.out W).mono ?_; rintro e w1 ⟨rfl, b1⟩)
   | ((with_reducible refine wpList_storeF 139 ((Below.refl w1.heap.size w1).alloc (Nat.le_refl _) _) (heap_alloc_new _ _) (Nat.le_refl _) (uq4 M 0 0 0) ?_ ?_ 4 ?_ ?_ ?_ ?_ ?_); rfl; rfl; rfl; kernel_rfl; rfl; rfl; intro w2 a2 b2 k2 z2; clear k2; replace z2 := Lib.hid z2))
  obtain ⟨G, hG0⟩ : ∃ G, G = w1.heap.size := ⟨_, rfl⟩
  rw [← hG0] at a2 ⊢
  have c2 : Below H w w2 := (bW.trans (b1.mono (Nat.le_of_lt rW.lt))).trans ((b2).mono (Nat.le_trans (Nat.le_of_lt rW.lt) b1.size))
  have r2 := (rW.below b1).below b2
  have hGH : H < G := by rw [hG0]; exact Nat.lt_of_lt_of_le rW.lt b1.size
  replace hG0 := Lib.hid hG0
  have hGe : H ≤ G := Nat.le_of_lt hGH
  go_upto_region 8 with (first
   | ((with_reducible refine wpList_loadF 139 a2 ?_ _ 4 ?_ Tryd.underlying139 ?_ ?_ ?_); rfl; rfl; rfl; kernel_rfl)
   | (go_at_call 94; refine (HS.out w2).mono ?_; rintro e w3 ⟨rfl, b3⟩; have c3 := c2.trans (b3.mono (Nat.le_of_lt r2.lt)); have a3 := a2.below b3)
   | ((with_reducible refine wpList_storeFA 139 c3 a3 hGe (uc V) ?_ ?_ 4 ?_ ?_ ?_ ?_ ?_); rfl; rfl; rfl; kernel_rfl; rfl; rfl; intro w4 a4 b4 k4 z4; replace z4 := Lib.hid z4))
  have r4 : Av w4 H 139 [.int .u64 0, .int .u64 0, .int .u64 0, .int .u64 0] := (r2.below b3).same (k4 _ (Nat.ne_of_lt hGH))
  go_upto_region 10 with (first
   | ((with_reducible refine wpList_loadG 139 a4 ?_ ?_ _ 4 ?_ Tryd.underlying139 ?_ ?_ ?_); rfl; rfl; rfl; rfl; kernel_rfl)
   | ((with_reducible refine wpList_binG (op := .eql) (ty := 139) ?_ ?_ ?_ (HZ.out _ _ w4) ?_); rfl; rfl; rfl))
  go_wp2_with (first
   | ((with_reducible refine wpList_loadF 139 a4 ?_ _ 4 ?_ Tryd.underlying139 ?_ ?_ ?_); rfl; rfl; rfl; kernel_rfl)
   | ((with_reducible refine wpList_storeFA 139 b4 r4 (Nat.le_refl _) (uc V) ?_ ?_ 4 ?_ ?_ ?_ ?_ ?_); rfl; rfl; rfl; kernel_rfl; rfl; rfl; intro w6 a6 b6 k6 z6; clear k6; replace z6 := Lib.hid z6))
  refine bodyPost_ret (v := .tuple #[.agg (uc V).toArray, .int .i64 0]) ((results_cellU (C := uc V) (by rfl) (by rfl) a6 _ Tryd.underlying139 rfl 4 rfl (by kernel_rfl)).trans (by rfl)) (by rfl) ?_
  exact ⟨rfl, by rw [← hH.out]; exact b6⟩
def expV (b : Nat) : Value := match mExp b with
 | some t => .tuple #[.agg (uc t).toArray, .int .i64 0]
 | none => .tuple #[.agg (uc 0).toArray, .int .i64 7]
theorem expV_none {b : Nat} (h : mExp b = none) : expV b = .tuple #[.agg (uc 0).toArray, .int .i64 7] := by rw [expV, h]
theorem expV_some {b t : Nat} (h : mExp b = some t) : expV b = .tuple #[.agg (uc t).toArray, .int .i64 0] := by rw [expV, h]
theorem TExp (b : Nat) (hb : b < 4294967296) (w : World) : Calls Tryd.prog 80 #[.int .u32 (b : Int)] w fun e w' => e = .returned (expV b) ∧ Below w.heap.size w w' := by
 by_cases h0 : b % 8388608 ≠ 0 ∧ b / 8388608 % 2 = 1
 ·rw [expV_none (by rw [mExp, if_neg h0.1, if_pos h0.2])]
  exact TExp_a b hb h0.1 h0.2 w
 ·by_cases hz : b % 8388608 = 0
  ·rw [expV_none (by rw [mExp, if_pos hz])]
   by_cases h2 : b / 16777216 < 3
   ·exact TExp_lo_zero b hb h0 h2 (by rw [hz]; simp) w
   ·exact TExp_hi_zero b hb h0 (by omega) (by rw [hz]; simp) (by rw [hz]; simp) w
  ·have hs : ¬ b / 8388608 % 2 = 1 := fun h => h0 ⟨hz, h⟩
   by_cases h2 : b / 16777216 < 3
   ·by_cases h3 : b % 8388608 / 2 ^ (8 * (3 - b / 16777216)) = 0
    ·rw [expV_none (by rw [mExp, if_neg hz, if_neg hs, if_pos h2, if_pos h3])]
     exact TExp_lo_zero b hb h0 h2 h3 w
    ·rw [expV_some (by rw [mExp, if_neg hz, if_neg hs, if_pos h2, if_neg h3])]
     exact TExp_lo_fine b hb h0 h2 h3 w
   ·by_cases h3 : 115792089237316195423570985008687907853269984665640564039457584007913129639936 ≤ b % 8388608 * 2 ^ (8 * (b / 16777216 - 3))
    ·rw [expV_none (by rw [mExp, if_neg hz, if_neg hs, if_neg h2, if_pos h3])]
     exact TExp_hi_over b hb h0 (by omega) h3 w
    ·rw [expV_some (by rw [mExp, if_neg hz, if_neg hs, if_neg h2, if_neg h3])]
     exact TExp_hi_fine b hb h0 (by omega) (by omega) (Nat.pos_iff_ne_zero.1 (Nat.mul_pos (by omega) (Nat.pow_pos (by omega)))) w
end Go.Proofs.YtobjgebojhjhnaaDoor
