/- Y1; Y2: put together for the claim. -/
import Derived.Test.YtjgdmpbaikhflaaDoorPr9
import Derived.Test.YtjgdmpbaikhflaaDoorUs
/- The reference's numbers (florinref01): their digits of two, plain. -/
namespace Go.Proofs.YtjgdmpbaikhflaaDoor
open Go.RowKit
/-- a number's digit i -/
def dbit (a i : Nat) : Nat := a / 2 ^ i % 2
/-- the first m digits as cells, zeros behind them -/
def dgC (a m : Nat) : List Value := (List.range 256).map fun i => .int .i64 ((if i < m then dbit a i else 0 : Nat) : Int)
theorem dgC_len (a m : Nat) : (dgC a m).length = 256 := by simp [dgC]
theorem dgC_one (a m : Nat) : ∀ u ∈ dgC a m, u.oneCell' = true := by
  intro u hu
  obtain ⟨i, _, rfl⟩ := List.mem_map.1 hu
  rfl
theorem dgC_0 (a : Nat) : dgC a 0 = List.replicate 256 (.int .i64 0) := by
  rw [dgC, List.eq_replicate_iff]
  refine ⟨by simp, fun b hb => ?_⟩
  obtain ⟨i, _, rfl⟩ := List.mem_map.1 hb
  rfl
theorem dgC_at (a m i : Nat) (h : i < 256) : (dgC a m)[i]? = some (.int .i64 ((if i < m then dbit a i else 0 : Nat) : Int)) := by
  simp [dgC, h]
theorem dgC_set (a m : Nat) (h : m < 256) : (dgC a m).set m (.int .i64 (dbit a m : Int)) = dgC a (m + 1) := by
  apply List.ext_getElem?
  intro i
  rw [List.getElem?_set]
  by_cases e : m = i
  · subst e
    rw [if_pos rfl, if_pos (by rw [dgC_len]; exact h), dgC_at a (m + 1) m h, if_pos (by omega)]
  · rw [if_neg e]
    by_cases hi : i < 256
    · rw [dgC_at a m i hi, dgC_at a (m + 1) i hi]
      by_cases h2 : i < m
      · rw [if_pos h2, if_pos (by omega)]
      · rw [if_neg h2, if_neg (by omega)]
    · rw [List.getElem?_eq_none (by rw [dgC_len]; omega), List.getElem?_eq_none (by rw [dgC_len]; omega)]
theorem dbit_lt (a i : Nat) : dbit a i < 2 := Nat.mod_lt _ (by omega)
theorem lim_bitR (n j k : Nat) : (lim n j).testBit k = (decide (k < 64) && n.testBit (64 * j + k)) := by
  unfold lim
  rw [show (18446744073709551616 : Nat) = 2 ^ 64 from by decide, ← Nat.pow_mul, Nat.testBit_mod_two_pow, Nat.testBit_div_two_pow]
  rw [Nat.add_comm]
theorem lim_getR (n i : Nat) : lim n (i / 64) / 2 ^ (i % 64) % 2 = dbit n i := by
  unfold dbit
  have h := lim_bitR n (i / 64) (i % 64)
  rw [Nat.testBit_eq_decide_div_mod_eq, Nat.testBit_eq_decide_div_mod_eq, show 64 * (i / 64) + i % 64 = i by omega] at h
  have h1 : i % 64 < 64 := Nat.mod_lt _ (by omega)
  simp only [h1, decide_true, Bool.true_and, decide_eq_decide] at h
  omega
/-- a digit is laid upon a smaller number -/
theorem lim_up (n i : Nat) (h : n < 2 ^ i) (j : Nat) : lim (n + 2 ^ i) j = if j = i / 64 then lim n j ||| 2 ^ (i % 64) else lim n j := by
  have e : n + 2 ^ i = n ||| 2 ^ i := by
    have := Nat.two_pow_add_eq_or_of_lt h 1
    rw [Nat.mul_one] at this
    rw [Nat.add_comm, this, Nat.or_comm]
  apply Nat.eq_of_testBit_eq
  intro k
  rw [e, lim_bitR, Nat.testBit_or, Nat.testBit_two_pow]
  split
  · rename_i e
    subst e
    rw [Nat.testBit_or, lim_bitR, Nat.testBit_two_pow]
    by_cases hk : k < 64
    · have : (i = 64 * (i / 64) + k) ↔ (i % 64 = k) := by omega
      simp [hk, this]
    · have : i % 64 ≠ k := by omega
      simp [hk, this]
  · rw [lim_bitR]
    by_cases hk : k < 64
    · have : i ≠ 64 * j + k := by omega
      simp [hk, this]
    · simp [hk]
theorem mod_up (n i : Nat) : n % 2 ^ (i + 1) = n % 2 ^ i + dbit n i * 2 ^ i := by
  rw [Nat.pow_succ, Nat.mod_mul, Nat.mul_comm, dbit]
/-- the number of the first i digits, one more of them laid into its part -/
theorem lim_next (n i : Nat) (j : Nat) : lim (n % 2 ^ (i + 1)) j = if j = i / 64 then lim (n % 2 ^ i) j ||| (dbit n i * 2 ^ (i % 64)) else lim (n % 2 ^ i) j := by
  rw [mod_up]
  have h2 := dbit_lt n i
  have hl : n % 2 ^ i < 2 ^ i := Nat.mod_lt _ (Nat.two_pow_pos i)
  generalize dbit n i = d at *
  obtain rfl | rfl : d = 0 ∨ d = 1 := by omega
  · simp
  · rw [Nat.one_mul, Nat.one_mul]; exact lim_up _ i hl j
/-- the cells of the number of the first i digits, with one more -/
theorem uc_next (n i : Nat) (h : i < 256) : (uc (n % 2 ^ i)).set (i / 64) (.int .u64 ((lim (n % 2 ^ i) (i / 64) ||| (dbit n i * 2 ^ (i % 64)) : Nat) : Int)) = uc (n % 2 ^ (i + 1)) := by
  have e := lim_next n i
  have hq : i / 64 < 4 := by omega
  have e0 := e 0
  have e1 := e 1
  have e2 := e 2
  have e3 := e 3
  simp only [uc]
  rw [e0, e1, e2, e3]
  generalize i / 64 = q at *
  rcases q with _ | _ | _ | _ | q
  · simp
  · simp
  · simp
  · simp
  · omega
theorem dgC_big (a m : Nat) (h : 256 ≤ m) : dgC a m = dgC a (m + 1) := by
  unfold dgC
  refine List.map_congr_left fun i hi => ?_
  rw [List.mem_range] at hi
  rw [if_pos (by omega), if_pos (by omega)]
theorem dgC_skip (a m : Nat) (h : dbit a m = 0) : dgC a m = dgC a (m + 1) := by
  unfold dgC
  refine List.map_congr_left fun i _ => ?_
  by_cases e : i = m
  · subst e; rw [if_neg (by omega), if_pos (by omega), h]
  · by_cases h2 : i < m
    · rw [if_pos h2, if_pos (by omega)]
    · rw [if_neg h2, if_neg (by omega)]
theorem dgC_low (a m : Nat) (h : ∀ i, i < m → dbit a i = 0) : dgC a m = dgC a 0 := by
  unfold dgC
  refine List.map_congr_left fun i _ => ?_
  by_cases h2 : i < m
  · rw [if_pos h2, h i h2, if_neg (by omega)]
  · rw [if_neg h2, if_neg (by omega)]
theorem dbit_shl (a n i : Nat) : dbit (a * 2 ^ n) (i + n) = dbit a i := by
  unfold dbit
  rw [Nat.pow_add, Nat.mul_div_mul_right _ _ (Nat.two_pow_pos n)]
theorem dbit_shl_low (a n i : Nat) (h : i < n) : dbit (a * 2 ^ n) i = 0 := by
  unfold dbit
  rw [show n = i + (n - i - 1 + 1) by omega, Nat.pow_add, ← Nat.mul_assoc, Nat.mul_right_comm, Nat.mul_div_cancel _ (Nat.two_pow_pos i), Nat.pow_succ, ← Nat.mul_assoc]
  exact Nat.mul_mod_left _ _
theorem dbit_shr (a n i : Nat) : dbit (a / 2 ^ n) i = dbit a (i + n) := by
  unfold dbit
  rw [Nat.div_div_eq_div_mul, ← Nat.pow_add, Nat.add_comm]
theorem dbit_hi (a i : Nat) (h : a < 2 ^ i) : dbit a i = 0 := by
  unfold dbit
  rw [Nat.div_eq_of_lt h]
/-- what is lost of the first i digits, n places higher -/
theorem lost_next (a n i : Nat) : decide (2 ^ 256 ≤ a % 2 ^ (i + 1) * 2 ^ n) = (decide (2 ^ 256 ≤ a % 2 ^ i * 2 ^ n) || (decide (256 ≤ i + n) && dbit a i == 1)) := by
  rw [mod_up]
  have h2 := dbit_lt a i
  have hl : a % 2 ^ i < 2 ^ i := Nat.mod_lt _ (Nat.two_pow_pos i)
  have hp := Nat.two_pow_pos n
  generalize dbit a i = d at *
  generalize a % 2 ^ i = x at *
  obtain rfl | rfl : d = 0 ∨ d = 1 := by omega
  · simp
  · by_cases hi : 256 ≤ i + n
    · have : 2 ^ 256 ≤ (x + 1 * 2 ^ i) * 2 ^ n := by
        rw [Nat.add_mul, Nat.one_mul, ← Nat.pow_add]
        exact Nat.le_trans (Nat.pow_le_pow_right (by omega) hi) (Nat.le_add_left _ _)
      rw [decide_eq_true this, decide_eq_true hi]
      simp
    · have h3 : (x + 1 * 2 ^ i) * 2 ^ n < 2 ^ 256 := by
        have : (x + 1 * 2 ^ i) * 2 ^ n < 2 ^ (i + 1) * 2 ^ n := by
          apply Nat.mul_lt_mul_of_pos_right _ hp
          rw [Nat.pow_succ]; omega
        rw [← Nat.pow_add] at this
        exact Nat.lt_of_lt_of_le this (Nat.pow_le_pow_right (by omega) (by omega))
      have h4 : x * 2 ^ n < 2 ^ 256 := Nat.lt_of_le_of_lt (Nat.mul_le_mul_right _ (Nat.le_add_right _ _)) h3
      rw [decide_eq_false (by omega), decide_eq_false (by omega), decide_eq_false hi]
      rfl
/-- digits from the highest one on -/
theorem cmp_digit (a b i : Nat) (h : a / 2 ^ (i + 1) = b / 2 ^ (i + 1)) : (dbit a i = dbit b i → a / 2 ^ i = b / 2 ^ i) ∧ (dbit a i < dbit b i → a < b) := by
  have e : ∀ x : Nat, x / 2 ^ i = 2 * (x / 2 ^ (i + 1)) + dbit x i := fun x => by
    unfold dbit
    rw [Nat.pow_succ, ← Nat.div_div_eq_div_mul]
    omega
  refine ⟨fun k => by rw [e a, e b, h, k], fun k => ?_⟩
  have : a / 2 ^ i < b / 2 ^ i := by rw [e a, e b, h]; omega
  exact Nat.lt_of_not_le fun hle => Nat.not_le_of_lt this (Nat.div_le_div_right hle)
end Go.Proofs.YtjgdmpbaikhflaaDoor
/- The reference's numbers: digits. -/
namespace Go.Proofs.YtjgdmpbaikhflaaDoor
open Go.RowKit
theorem size_i64 : (Tryd.prog.info? 3).map (·.size) = some 1 := by kernel_rfl
theorem zcD_any (a : Nat) : Tryd.zeroCells97 = (dgC a 0).toArray := by
  rw [dgC_0]
  kernel_rfl
theorem and_1 (x : Nat) (h : x < 18446744073709551616) : bits .and .u64 (x : Int) 1 = ((x % 2 : Nat) : Int) := by
  have := (bits_nat .u64 64 (by decide) wraps_u64 x 1 (by omega) (by omega)).1
  rw [show x &&& 1 = x % 2 from Nat.and_two_pow_sub_one_eq_mod _ 1] at this
  simpa using this
theorem uc_getR (n k : Nat) (hk : k < 4) : (uc n)[k]? = some (.int .u64 (lim n k : Int)) := by
  rcases k with _ | _ | _ | _ | k
  · rfl
  · rfl
  · rfl
  · rfl
  · omega
set_option maxRecDepth 100000 in
set_option maxHeartbeats 4000000 in
theorem RDigits (a : Nat) (w : World) :
    Calls Tryd.prog 65 #[.agg (uc a).toArray] w fun e w' => e = .returned (.agg (dgC a 256).toArray) ∧ Below w.heap.size w w' := by
  obtain ⟨W, hW⟩ : ∃ W, W = ((w.alloc (.cells (uc a).toArray 81)).alloc (.cells Tryd.zeroCells97 97)).alloc (.cells Tryd.zeroCells97 97) := ⟨_, rfl⟩
  obtain ⟨H, hH⟩ : ∃ H, H = w.heap.size := ⟨_, rfl⟩
  have bW : Below H w W := by rw [hW, hH]; exact (((Below.refl _ _).alloc (Nat.le_refl _) _).alloc (by simp) _).alloc (by simp; omega) _
  have aU : Av W H 81 (uc a) := by rw [hW, hH]; exact Av.alloc (heap_alloc2_old _ _ _) _
  have aR : Av W (H + 1) 97 (dgC a 0) := by rw [hW, hH, zcD_any a]; exact Av.alloc (heap_alloc2_new _ _ _) _
  have aD : Av W (H + 1 + 1) 97 (dgC a 0) := by
    have e : ∀ (v : World) (o : Obj), (v.alloc o).heap.size = v.heap.size + 1 := fun v o => by simp
    have := heap_alloc_new ((w.alloc (.cells (uc a).toArray 81)).alloc (.cells Tryd.zeroCells97 97)) (.cells Tryd.zeroCells97 97)
    rw [e, e] at this
    rw [hW, hH]
    rw [zcD_any a] at this ⊢
    exact this
  have hHs : H ≤ W.heap.size := Nat.le_of_lt aU.lt
  obtain ⟨D, hD⟩ : ∃ D, D = dgC a 256 := ⟨_, rfl⟩
  rw [← hD]
  replace hD := Lib.hid hD
  replace hW := Lib.hid hW
  replace hH := Lib.hid hH
  go_enter Tryd.func65, Tryd.ntmps65
  go_upto_region 2 with fail
  rw [← hW.out, ← hH.out]
  go_upto_region 3 with fail
  go_loopw [4] (fun i wr => ∃ k : Nat, k ≤ 256 ∧ i = .int .i64 (k : Int) ∧ Below H w wr ∧ Av wr H 81 (uc a) ∧ Av wr (H + 1) 97 (dgC a 0) ∧ Av wr (H + 1 + 1) 97 (dgC a k)) (fun i _ => 256 - (intOf i).toNat)
  case atStart => exact ⟨0, by omega, rfl, bW, aU, aR, aD⟩
  case round =>
    clear aU aR aD bW
    obtain ⟨k, hk, rfl, bw, aU, aR, aD⟩ := hrel
    by_cases hlt : k < 256
    · have t1 : decide ((k : Int) < 256) = true := by simp; omega
      have e1 : Int.tdiv (k : Int) 64 = ((k / 64 : Nat) : Int) := by rw [Int.tdiv_eq_ediv_of_nonneg (by omega)]; omega
      have e2 : Int.tmod (k : Int) 64 = ((k % 64 : Nat) : Int) := by rw [Int.tmod_eq_emod_of_nonneg (by omega)]; omega
      have hg := lim_getR a k
      obtain ⟨q, hq⟩ : ∃ q, q = k / 64 := ⟨_, rfl⟩
      obtain ⟨r, hr⟩ : ∃ r, r = k % 64 := ⟨_, rfl⟩
      have hq4 : q < 4 := by omega
      have hr6 : r < 64 := by omega
      rw [← hq] at e1 hg
      rw [← hr] at e2 hg
      have cU := aU.cell q _ (uc_getR a q hq4)
      obtain ⟨x, hx⟩ : ∃ x, x = lim a q := ⟨_, rfl⟩
      rw [← hx] at cU hg
      have q0 : (0 : Int) ≤ (q : Int) := by omega
      have q1 : (q : Int) < 4 := by omega
      have r0 : (0 : Int) ≤ (r : Int) := by omega
      have r1 : (r : Int) < 64 := by omega
      have k0 : (0 : Int) ≤ (k : Int) := by omega
      have k1 : (k : Int) < 256 := by omega
      have hl : k < (dgC a k).length := by rw [dgC_len]; exact hlt
      replace hq := Lib.hid hq
      replace hr := Lib.hid hr
      replace hx := Lib.hid hx
      replace hg := Lib.hid hg
      obtain ⟨d, hd⟩ : ∃ d, d = dbit a k := ⟨_, rfl⟩
      have hd2 : d < 2 := by rw [hd]; exact dbit_lt a k
      have e3 : bits .and .u64 ((x : Int) / 2 ^ r) 1 = (d : Int) := by
        have h1 : ((x : Int) / 2 ^ r) = ((x / 2 ^ r : Nat) : Int) := by simp
        rw [h1, and_1 _ (Nat.lt_of_le_of_lt (Nat.div_le_self _ _) (by rw [hx.out]; exact lim_lt a q)), hg.out, hd]
      have e4 : IntKind.i64.wrap (d : Int) = (d : Int) := by rw [IntKind.wrap_i64]; omega
      have hset := dgC_set a k hlt
      rw [← hd] at hset
      obtain ⟨D1, hD1⟩ : ∃ D, D = dgC a k := ⟨_, rfl⟩
      rw [← hD1] at hset aD hl
      replace hset := Lib.hid hset
      replace hd := Lib.hid hd
      replace hD1 := Lib.hid hD1
      go_upto_region 4 with ((with_reducible refine wpList_storeI 3 aD hl .i64 (d : Int) ?_ ?_ size_i64 ?_); rfl; rfl; intro w4 a4 f4)
      rw [hset.out] at a4
      have aU4 := f4.av aU (by omega)
      have aR4 := f4.av aR (by omega)
      have b4 := bw.trans (f4.below (B := H) (fun k hk => by omega) (by rw [hH.out]; exact bw.size))
      clear aU aR aD bw f4 cU
      go_wp2
      refine ⟨⟨k + 1, by omega, by go_num, b4, aU4, aR4, a4⟩, ?_⟩
      simp [intOf]
      omega
    · obtain rfl : k = 256 := by omega
      have t1 : decide ((256 : Int) < 256) = false := by simp
      have l256 := Lib.hid (dgC_len a 256)
      have l0 := Lib.hid (dgC_len a 0)
      have one := Lib.hid (List.all_eq_true.2 (dgC_one a 256))
      rw [← hD.out] at aD l256 one
      go_wp2_with (first
        | ((with_reducible refine wpList_loadF 97 aD ?_ _ 256 l256.out Tryd.underlying97 ?_ ?_ ?_); rfl; rfl; kernel_rfl)
        | ((with_reducible refine wpList_storeFA 97 bw aR (by omega) D ?_ ?_ 256 l256.out ?_ l0.out one.out ?_); rfl; rfl; kernel_rfl; intro w4 a4 b4 k4 z4; clear k4 z4))
      refine bodyPost_ret (results_cell_row rfl _ _ (H + 1) _ _ (0, 0) _ (by rfl) a4 Tryd.underlying97 rfl (by rw [List.size_toArray, l256.out]; kernel_rfl)) rfl ⟨rfl, by rw [← hH.out]; exact b4⟩
end Go.Proofs.YtjgdmpbaikhflaaDoor
