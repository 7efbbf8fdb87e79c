/- The reference's numbers: Shr, Shl. -/
import Derived.Test.YtjgdmpbaikhflaaDoorY3
import Derived.Test.YtjgdmpbaikhflaaDoorPr10
namespace Go.Proofs.YtjgdmpbaikhflaaDoor
open Go.RowKit
theorem zcA (a : Nat) : Tryd.zeroCells97 = (dgC a 0).toArray := zcD_any a
theorem zsA (a : Nat) (C : Array Value) (h : C = (dgC a 0).toArray) : C.toList = dgC a 0 := by rw [h]
theorem dgC_end (a m : Nat) (h : 256 ≤ m) : dgC a m = dgC a 256 := by
  unfold dgC
  refine List.map_congr_left fun i hi => ?_
  rw [List.mem_range] at hi
  rw [if_pos (by omega), if_pos (by omega)]
set_option maxRecDepth 100000 in
set_option maxHeartbeats 4000000 in
theorem RShr (a : Nat) (ha : a < 2 ^ 256) (z : Int) (n : Nat) (hz : max z 0 = (n : Int)) (hn : n ≤ 4096) (w : World) :
    Calls Tryd.prog 63 #[.agg (uc a).toArray, .int .i64 z] w fun e w' => e = .returned (.agg (uc (a / 2 ^ n % 2 ^ 256)).toArray) ∧ Below w.heap.size w w' := by
  have hend : 256 ≤ n → dgC (a / 2 ^ n) 256 = dgC (a / 2 ^ n) 0 := fun h => dgC_low _ _ fun i _ => by
    rw [dbit_shr]; exact dbit_hi _ _ (Nat.lt_of_lt_of_le ha (Nat.pow_le_pow_right (by omega) (by omega)))
  have hst0 : ∀ k, n ≤ 4096 → k + n < 256 → (dgC a 256)[k + n]? = some (.int .i64 (dbit (a / 2 ^ n) k : Int)) := fun k _ h => by
    rw [dgC_at a 256 (k + n) h, if_pos h, dbit_shr]
  have hsk : ∀ k, ¬ k + n < 256 → dgC (a / 2 ^ n) k = dgC (a / 2 ^ n) (k + 1) := fun k h => dgC_skip _ _ (by
    rw [dbit_shr]; exact dbit_hi _ _ (Nat.lt_of_lt_of_le ha (Nat.pow_le_pow_right (by omega) (by omega))))
  obtain ⟨A, hA⟩ : ∃ A, A = a / 2 ^ n := ⟨_, rfl⟩
  obtain ⟨X, hX⟩ : ∃ X, X = dgC a 256 := ⟨_, rfl⟩
  obtain ⟨V, hV⟩ : ∃ V, V = uc a := ⟨_, rfl⟩
  obtain ⟨Z, hZ⟩ : ∃ Z, Z = uc (A % 2 ^ 256) := ⟨_, rfl⟩
  rw [← hA, ← hV, ← hZ]
  obtain ⟨W, hW⟩ : ∃ W, W = (w.alloc (.cells V.toArray 81)).alloc (.cells #[.int .u64 0, .int .u64 0, .int .u64 0, .int .u64 0] 81) := ⟨_, rfl⟩
  obtain ⟨H, hH⟩ : ∃ H, H = w.heap.size := ⟨_, rfl⟩
  have bW : Below w.heap.size w W := by rw [hW]; exact ((Below.refl _ _).alloc (Nat.le_refl _) _).alloc (by simp) _
  have aU : Av W H 81 V := by rw [hW, hH]; exact heap_alloc2_old _ _ _
  have aR : Av W (H + 1) 81 [.int .u64 0, .int .u64 0, .int .u64 0, .int .u64 0] := by rw [hW, hH]; exact heap_alloc2_new _ _ _
  have lU : Hid (V.length = 4) := Lib.hid (by rw [hV]; rfl)
  have lX : Hid (X.length = 256) := Lib.hid (by rw [hX]; exact dgC_len a 256)
  have oX : Hid (X.all (·.oneCell') = true) := Lib.hid (by rw [hX]; exact List.all_eq_true.2 (dgC_one a 256))
  have zsz : Hid (Tryd.zeroCells97.size = 256) := Lib.hid (by rw [zcD_any 0, List.size_toArray, dgC_len])
  have HD0 := RDigits a W
  rw [← hX, ← hV] at HD0
  have HN0 := RNumberD A
  rw [← hZ] at HN0
  have HD := Lib.hid HD0
  have HN := Lib.hid HN0
  have lZ : Hid (Z.length = 4) := Lib.hid (by rw [hZ]; rfl)
  have oZ : Hid (Z.all (·.oneCell') = true) := Lib.hid (by rw [hZ]; rfl)
  replace hA := Lib.hid hA
  replace hX := Lib.hid hX
  replace hV := Lib.hid hV
  replace hZ := Lib.hid hZ
  replace hW := Lib.hid hW
  replace hH := Lib.hid hH
  clear HD0 HN0
  go_enter Tryd.func63, Tryd.ntmps63
  go_upto_region 1 with fail
  rw [← hW.out, ← hH.out]
  go_upto_region 2 with fail
  go_upto_region 3 with (first
    | ((with_reducible refine wpList_loadF 81 aU ?_ _ 4 lU.out Tryd.underlying81 ?_ ?_ ?_); rfl; rfl; kernel_rfl)
    | (go_at_call 65; refine (HD.out).mono ?_; rintro e w1 ⟨rfl, b1⟩)
    | ((with_reducible refine wpList_storeF 97 ((Below.refl w1.heap.size w1).alloc (Nat.le_refl _) _) (heap_alloc_new _ _) (Nat.le_refl _) X ?_ ?_ 256 lX.out ?_ zsz.out oX.out ?_); rfl; rfl; kernel_rfl; intro w2 a5 b2 k2 z2; clear k2 z2))
  have b12 := b1.trans (b2.mono b1.size)
  have bw2 := bW.trans (b12.mono bW.size)
  have aR2 := aR.below b12
  obtain ⟨g5, hg5⟩ : ∃ g, g = w1.heap.size := ⟨_, rfl⟩
  rw [← hg5] at a5 ⊢
  have hR5 : H + 1 < g5 := by rw [hg5]; exact Nat.lt_of_lt_of_le aR.lt b1.size
  replace hg5 := Lib.hid hg5
  have a6 : Av (w2.alloc (.cells Tryd.zeroCells97 97)) w2.heap.size 97 (dgC A 0) := by rw [zcA A]; exact heap_alloc_new _ _
  have b3 : Below w2.heap.size w2 (w2.alloc (.cells Tryd.zeroCells97 97)) := (Below.refl _ _).alloc (Nat.le_refl _) _
  have bw3 := bw2.trans (b3.mono bw2.size)
  have aR3 := aR2.below b3
  have hg56 := a5.lt
  have a53 := a5.below b3
  obtain ⟨w3, hw3⟩ : ∃ w3, w3 = w2.alloc (.cells Tryd.zeroCells97 97) := ⟨_, rfl⟩
  obtain ⟨g6, hg6⟩ : ∃ g, g = w2.heap.size := ⟨_, rfl⟩
  rw [← hw3, ← hg6] at a6
  rw [← hw3] at bw3 aR3 a53
  rw [← hg6] at hg56
  replace hw3 := Lib.hid hw3
  replace hg6 := Lib.hid hg6
  have hHw : Hid (w.heap.size ≤ H) := Lib.hid (by rw [hH.out]; exact Nat.le_refl _)
  clear b1 b2 b3 b12 bw2 aR2 a5 aU aR bW HD
  rw [← hA.out] at hend hsk
  have hst1 := hst0
  rw [← hA.out, ← hX.out] at hst1
  replace hend := Lib.hid hend
  replace hsk := Lib.hid hsk
  replace hst1 := Lib.hid hst1
  clear hst0 ha
  go_upto_region 5 with fail
  rw [← hw3.out, ← hg6.out]
  go_loopw [7] (fun iv wr => ∃ k : Nat, k ≤ 256 ∧ iv = .int .i64 (k : Int) ∧ (256 ≤ n → k = 0) ∧ Below w.heap.size w wr ∧ Av wr (H + 1) 81 [.int .u64 0, .int .u64 0, .int .u64 0, .int .u64 0] ∧ Av wr g5 97 X ∧ Av wr g6 97 (dgC A k)) (fun iv _ => 256 - (intOf iv).toNat)
  case atStart => exact ⟨0, by omega, rfl, fun _ => rfl, bw3, aR3, a53, a6⟩
  case round =>
    clear bw3 aR3 a53 a6
    obtain ⟨k, hk, rfl, hk0, bw, aR, a5, a6⟩ := hrel
    by_cases hn2 : n < 256
    · have t2 : decide ((n : Int) < 256) = true := by simp; omega
      by_cases hlt : k < 256
      · have t1 : decide ((k : Int) < 256) = true := by simp; omega
        obtain ⟨s, hs⟩ : ∃ s, s = k + n := ⟨_, rfl⟩
        have e1 : IntKind.i64.wrap ((k : Int) + (n : Int)) = (s : Int) := by rw [IntKind.wrap_i64]; omega
        have k0 : (0 : Int) ≤ (k : Int) := by omega
        have k1 : (k : Int) < 256 := by omega
        by_cases hs2 : s < 256
        · have t3 : decide ((s : Int) < 256) = true := by simp; omega
          have s0 : (0 : Int) ≤ (s : Int) := by omega
          have s1 : (s : Int) < 256 := by omega
          have cX := a5.cell s _ (by rw [hs]; exact hst1.out k hn (by omega))
          have hset := dgC_set A k hlt
          have hl : k < (dgC A k).length := by rw [dgC_len]; exact hlt
          obtain ⟨d, hd⟩ : ∃ d, d = dbit A k := ⟨_, rfl⟩
          rw [← hd] at cX
          rw [← hd] at hset
          obtain ⟨Y, hY⟩ : ∃ Y, Y = dgC A k := ⟨_, rfl⟩
          rw [← hY] at hset hl a6
          replace hset := Lib.hid hset
          replace hd := Lib.hid hd
          replace hY := Lib.hid hY
          replace hs := Lib.hid hs
          go_upto_region 6 with ((with_reducible refine wpList_storeI 3 a6 hl .i64 (d : Int) ?_ ?_ size_i64 ?_); rfl; rfl; intro w4 a4 f4)
          rw [hset.out] at a4
          have aR4 := f4.av aR (by omega)
          have a54 := f4.av a5 (by omega)
          have b4 := bw.trans (f4.below (B := w.heap.size) (fun k hk => by have := hHw.out; omega) bw.size)
          clear aR a5 a6 bw f4 cX
          go_wp2
          refine ⟨⟨k + 1, by omega, by go_num, fun h => by omega, b4, aR4, a54, a4⟩, ?_⟩
          simp [intOf]
          omega
        · have t3 : decide ((s : Int) < 256) = false := by simp; omega
          have hnx := hsk.out k (by omega)
          rw [hnx] at a6
          replace hs := Lib.hid hs
          clear hnx
          go_wp2
          refine ⟨⟨k + 1, by omega, by go_num, fun h => by omega, bw, aR, a5, a6⟩, ?_⟩
          simp [intOf]
          omega
      · obtain rfl : k = 256 := by omega
        have t1 : decide ((256 : Int) < 256) = false := by simp
        have lY := Lib.hid (dgC_len A 256)
        have hHl : w.heap.size ≤ H + 1 := by have := hHw.out; omega
        go_wp2_with (first
          | ((with_reducible refine wpList_loadF 97 a6 ?_ _ 256 lY.out Tryd.underlying97 ?_ ?_ ?_); rfl; rfl; kernel_rfl)
          | (go_at_call 74; refine (HN.out _).mono ?_; rintro e w8 ⟨rfl, b8⟩)
          | ((with_reducible refine wpList_storeFA 81 (bw.trans (b8.mono bw.size)) (aR.below b8) hHl Z ?_ ?_ 4 lZ.out ?_ ?_ oZ.out ?_); rfl; rfl; kernel_rfl; rfl; intro w9 a9 b9 k9 z9; clear k9 z9))
        refine bodyPost_ret (results_cell_row rfl _ _ (H + 1) _ _ (0, 0) _ (by rfl) a9 Tryd.underlying81 rfl (by rw [List.size_toArray, lZ.out]; kernel_rfl)) rfl ⟨rfl, b9⟩
    · have t2 : decide ((n : Int) < 256) = false := by simp; omega
      obtain rfl : k = 0 := hk0 (by omega)
      rw [← hend.out (by omega)] at a6
      have lY := Lib.hid (dgC_len A 256)
      have hHl : w.heap.size ≤ H + 1 := by have := hHw.out; omega
      go_wp2_with (first
        | ((with_reducible refine wpList_loadF 97 a6 ?_ _ 256 lY.out Tryd.underlying97 ?_ ?_ ?_); rfl; rfl; kernel_rfl)
        | (go_at_call 74; refine (HN.out _).mono ?_; rintro e w8 ⟨rfl, b8⟩)
        | ((with_reducible refine wpList_storeFA 81 (bw.trans (b8.mono bw.size)) (aR.below b8) hHl Z ?_ ?_ 4 lZ.out ?_ ?_ oZ.out ?_); rfl; rfl; kernel_rfl; rfl; intro w9 a9 b9 k9 z9; clear k9 z9))
      refine bodyPost_ret (results_cell_row rfl _ _ (H + 1) _ _ (0, 0) _ (by rfl) a9 Tryd.underlying81 rfl (by rw [List.size_toArray, lZ.out]; kernel_rfl)) rfl ⟨rfl, b9⟩
set_option maxRecDepth 100000 in
set_option maxHeartbeats 4000000 in
theorem RShl (a : Nat) (ha : a < 2 ^ 256) (z : Int) (n : Nat) (hz : max z 0 = (n : Int)) (hn : n ≤ 4096) (w : World) :
    Calls Tryd.prog 64 #[.agg (uc a).toArray, .int .i64 z] w fun e w' => e = .returned (.tuple #[.agg (uc (a * 2 ^ n % 2 ^ 256)).toArray, .bool (decide (2 ^ 256 ≤ a * 2 ^ n))]) ∧ Below w.heap.size w w' := by
  have hst : dgC (a * 2 ^ n) n = dgC (a * 2 ^ n) 0 := dgC_low _ _ fun i hi => dbit_shl_low a n i hi
  have hbit : ∀ k, dbit (a * 2 ^ n) (k + n) = dbit a k := fun k => dbit_shl a n k
  obtain ⟨LF, hLF⟩ : ∃ LF : Nat → Bool, LF = fun k => decide (2 ^ 256 ≤ a % 2 ^ k * 2 ^ n) := ⟨_, rfl⟩
  have L0 : LF 0 = false := by rw [hLF]; simp [Nat.mod_one]
  have LN : ∀ k, LF (k + 1) = (LF k || (decide (256 ≤ k + n) && dbit a k == 1)) := fun k => by rw [hLF]; exact lost_next a n k
  have LE : decide (2 ^ 256 ≤ a * 2 ^ n) = LF 256 := by rw [hLF]; simp only [Nat.mod_eq_of_lt ha]
  rw [LE]
  replace L0 := Lib.hid L0
  replace LN := Lib.hid LN
  clear LE hLF ha
  obtain ⟨A, hA⟩ : ∃ A, A = a * 2 ^ n := ⟨_, rfl⟩
  obtain ⟨X, hX⟩ : ∃ X, X = dgC a 256 := ⟨_, rfl⟩
  obtain ⟨V, hV⟩ : ∃ V, V = uc a := ⟨_, rfl⟩
  obtain ⟨Z, hZ⟩ : ∃ Z, Z = uc (A % 2 ^ 256) := ⟨_, rfl⟩
  rw [← hA] at hst hbit
  rw [← hA, ← hV, ← hZ]
  obtain ⟨W, hW⟩ : ∃ W, W = (w.alloc (.cells V.toArray 81)).alloc (.cells #[.int .u64 0, .int .u64 0, .int .u64 0, .int .u64 0] 81) := ⟨_, rfl⟩
  obtain ⟨H, hH⟩ : ∃ H, H = w.heap.size := ⟨_, rfl⟩
  have bW : Below w.heap.size w W := by rw [hW]; exact ((Below.refl _ _).alloc (Nat.le_refl _) _).alloc (by simp) _
  have aU : Av W H 81 V := by rw [hW, hH]; exact heap_alloc2_old _ _ _
  have aR : Av W (H + 1) 81 [.int .u64 0, .int .u64 0, .int .u64 0, .int .u64 0] := by rw [hW, hH]; exact heap_alloc2_new _ _ _
  have lU : Hid (V.length = 4) := Lib.hid (by rw [hV]; rfl)
  have lX : Hid (X.length = 256) := Lib.hid (by rw [hX]; exact dgC_len a 256)
  have oX : Hid (X.all (·.oneCell') = true) := Lib.hid (by rw [hX]; exact List.all_eq_true.2 (dgC_one a 256))
  have zsz : Hid (Tryd.zeroCells97.size = 256) := Lib.hid (by rw [zcD_any 0, List.size_toArray, dgC_len])
  have HD0 := RDigits a W
  rw [← hX, ← hV] at HD0
  have HN0 := RNumberD A
  rw [← hZ] at HN0
  have HD := Lib.hid HD0
  have HN := Lib.hid HN0
  have lZ : Hid (Z.length = 4) := Lib.hid (by rw [hZ]; rfl)
  have oZ : Hid (Z.all (·.oneCell') = true) := Lib.hid (by rw [hZ]; rfl)
  replace hA := Lib.hid hA
  replace hX := Lib.hid hX
  replace hV := Lib.hid hV
  replace hZ := Lib.hid hZ
  replace hW := Lib.hid hW
  replace hH := Lib.hid hH
  clear HD0 HN0
  go_enter Tryd.func64, Tryd.ntmps64
  go_upto_region 1 with fail
  rw [← hW.out, ← hH.out]
  go_upto_region 2 with fail
  go_upto_region 3 with (first
    | ((with_reducible refine wpList_loadF 81 aU ?_ _ 4 lU.out Tryd.underlying81 ?_ ?_ ?_); rfl; rfl; kernel_rfl)
    | (go_at_call 65; refine (HD.out).mono ?_; rintro e w1 ⟨rfl, b1⟩)
    | ((with_reducible refine wpList_storeF 97 ((Below.refl w1.heap.size w1).alloc (Nat.le_refl _) _) (heap_alloc_new _ _) (Nat.le_refl _) X ?_ ?_ 256 lX.out ?_ zsz.out oX.out ?_); rfl; rfl; kernel_rfl; intro w2 a5 b2 k2 z2; clear k2 z2))
  have b12 := b1.trans (b2.mono b1.size)
  have bw2 := bW.trans (b12.mono bW.size)
  have aR2 := aR.below b12
  obtain ⟨g5, hg5⟩ : ∃ g, g = w1.heap.size := ⟨_, rfl⟩
  rw [← hg5] at a5 ⊢
  have hR5 : H + 1 < g5 := by rw [hg5]; exact Nat.lt_of_lt_of_le aR.lt b1.size
  replace hg5 := Lib.hid hg5
  have a6 : Av (w2.alloc (.cells Tryd.zeroCells97 97)) w2.heap.size 97 (dgC A n) := by rw [hst, zcA A]; exact heap_alloc_new _ _
  have b3 : Below w2.heap.size w2 (w2.alloc (.cells Tryd.zeroCells97 97)) := (Below.refl _ _).alloc (Nat.le_refl _) _
  have bw3 := bw2.trans (b3.mono bw2.size)
  have aR3 := aR2.below b3
  have hg56 := a5.lt
  have a53 := a5.below b3
  obtain ⟨w3, hw3⟩ : ∃ w3, w3 = w2.alloc (.cells Tryd.zeroCells97 97) := ⟨_, rfl⟩
  obtain ⟨g6, hg6⟩ : ∃ g, g = w2.heap.size := ⟨_, rfl⟩
  rw [← hw3, ← hg6] at a6
  rw [← hw3] at bw3 aR3 a53
  rw [← hg6] at hg56
  replace hw3 := Lib.hid hw3
  replace hg6 := Lib.hid hg6
  have hHw : Hid (w.heap.size ≤ H) := Lib.hid (by rw [hH.out]; exact Nat.le_refl _)
  clear b1 b2 b3 b12 bw2 aR2 a5 aU aR bW HD
  have hX1 : ∀ k, k < 256 → X[k]? = some (.int .i64 (dbit a k : Int)) := fun k h => by rw [hX.out, dgC_at a 256 k h, if_pos h]
  replace hX1 := Lib.hid hX1
  replace hbit := Lib.hid hbit
  replace hst := Lib.hid hst
  go_upto_region 6 with fail
  rw [← hw3.out, ← hg6.out]
  go_loopw [8, 9] (fun lv iv wr => ∃ k : Nat, k ≤ 256 ∧ iv = .int .i64 (k : Int) ∧ lv = .bool (LF k) ∧ Below w.heap.size w wr ∧ Av wr (H + 1) 81 [.int .u64 0, .int .u64 0, .int .u64 0, .int .u64 0] ∧ Av wr g5 97 X ∧ Av wr g6 97 (dgC A (k + n))) (fun _ iv _ => 256 - (intOf iv).toNat)
  case atStart => exact ⟨0, by omega, rfl, by rw [L0.out], bw3, aR3, a53, by rw [Nat.zero_add]; exact a6⟩
  case round =>
    clear bw3 aR3 a53 a6
    obtain ⟨k, hk, rfl, rfl, bw, aR, a5, a6⟩ := hrel
    by_cases hlt : k < 256
    · have t1 : decide ((k : Int) < 256) = true := by simp; omega
      have k0 : (0 : Int) ≤ (k : Int) := by omega
      have k1 : (k : Int) < 256 := by omega
      have cX := a5.cell k _ (hX1.out k hlt)
      obtain ⟨s, hs⟩ : ∃ s, s = k + n := ⟨_, rfl⟩
      have e1 : IntKind.i64.wrap ((k : Int) + (n : Int)) = (s : Int) := by rw [IntKind.wrap_i64]; omega
      have hLN := LN.out k
      have hb := hbit.out k
      rw [← hs] at hLN hb a6
      obtain ⟨d, hd⟩ : ∃ d, d = dbit a k := ⟨_, rfl⟩
      rw [← hd] at hLN hb cX
      replace hd := Lib.hid hd
      obtain ⟨F, hF⟩ : ∃ F, F = LF k := ⟨_, rfl⟩
      rw [← hF] at hLN ⊢
      replace hF := Lib.hid hF
      by_cases hs2 : s < 256
      · have t3 : decide ((s : Int) < 256) = true := by simp; omega
        have t2 : decide ((n : Int) < 256) = true := by simp; omega
        have s0 : (0 : Int) ≤ (s : Int) := by omega
        have s1 : (s : Int) < 256 := by omega
        rw [decide_eq_false (by omega : ¬ 256 ≤ s), Bool.false_and, Bool.or_false] at hLN
        have hset := dgC_set A s hs2
        rw [hb] at hset
        have hl : s < (dgC A s).length := by rw [dgC_len]; exact hs2
        obtain ⟨Y, hY⟩ : ∃ Y, Y = dgC A s := ⟨_, rfl⟩
        rw [← hY] at hset hl a6
        replace hset := Lib.hid hset
        replace hY := Lib.hid hY
        replace hs := Lib.hid hs
        replace hLN := Lib.hid hLN
        clear hb
        go_upto_region 7 with ((with_reducible refine wpList_storeI 3 a6 hl .i64 (d : Int) ?_ ?_ size_i64 ?_); rfl; rfl; intro w4 a4 f4)
        rw [hset.out] at a4
        have aR4 := f4.av aR (by omega)
        have a54 := f4.av a5 (by omega)
        have b4 := bw.trans (f4.below (B := w.heap.size) (fun k hk => by have := hHw.out; omega) bw.size)
        clear aR a5 a6 bw f4 cX
        go_wp2
        refine ⟨⟨k + 1, by omega, by go_num, by rw [hLN.out], b4, aR4, a54, by rw [show k + 1 + n = s + 1 by have := hs.out; omega]; exact a4⟩, ?_⟩
        simp [intOf]
        omega
      · have t3 : decide ((s : Int) < 256) = false := by simp; omega
        rw [decide_eq_true (by omega : 256 ≤ s), Bool.true_and] at hLN
        rw [dgC_big A s (by omega), show s + 1 = k + 1 + n by omega] at a6
        replace hs := Lib.hid hs
        clear hb
        by_cases hn2 : n < 256
        · have t2 : decide ((n : Int) < 256) = true := by simp; omega
          cases F
          · by_cases hd1 : d = 1
            · subst hd1
              replace hLN := Lib.hid hLN
              go_wp2
              refine ⟨⟨k + 1, by omega, by go_num, by rw [hLN.out]; rfl, bw, aR, a5, a6⟩, ?_⟩
              simp [intOf]
              omega
            · have t4 : ((d : Int) == 1) = false := by simp; omega
              have hLN2 : LF (k + 1) = false := by rw [hLN]; simp [hd1]
              replace hLN2 := Lib.hid hLN2
              clear hLN
              go_wp2
              refine ⟨⟨k + 1, by omega, by go_num, by rw [hLN2.out], bw, aR, a5, a6⟩, ?_⟩
              simp [intOf]
              omega
          · have hLN2 : LF (k + 1) = true := by rw [hLN]; rfl
            replace hLN2 := Lib.hid hLN2
            clear hLN
            go_wp2
            refine ⟨⟨k + 1, by omega, by go_num, by rw [hLN2.out], bw, aR, a5, a6⟩, ?_⟩
            simp [intOf]
            omega
        · have t2 : decide ((n : Int) < 256) = false := by simp; omega
          cases F
          · by_cases hd1 : d = 1
            · subst hd1
              replace hLN := Lib.hid hLN
              go_wp2
              refine ⟨⟨k + 1, by omega, by go_num, by rw [hLN.out]; rfl, bw, aR, a5, a6⟩, ?_⟩
              simp [intOf]
              omega
            · have t4 : ((d : Int) == 1) = false := by simp; omega
              have hLN2 : LF (k + 1) = false := by rw [hLN]; simp [hd1]
              replace hLN2 := Lib.hid hLN2
              clear hLN
              go_wp2
              refine ⟨⟨k + 1, by omega, by go_num, by rw [hLN2.out], bw, aR, a5, a6⟩, ?_⟩
              simp [intOf]
              omega
          · have hLN2 : LF (k + 1) = true := by rw [hLN]; rfl
            replace hLN2 := Lib.hid hLN2
            clear hLN
            go_wp2
            refine ⟨⟨k + 1, by omega, by go_num, by rw [hLN2.out], bw, aR, a5, a6⟩, ?_⟩
            simp [intOf]
            omega
    · obtain rfl : k = 256 := by omega
      have t1 : decide ((256 : Int) < 256) = false := by simp
      rw [dgC_end A (256 + n) (by omega)] at a6
      obtain ⟨F, hF⟩ : ∃ F, F = LF 256 := ⟨_, rfl⟩
      rw [← hF]
      have lY := Lib.hid (dgC_len A 256)
      have hHl : w.heap.size ≤ H + 1 := by have := hHw.out; omega
      go_wp2_with (first
        | ((with_reducible refine wpList_loadF 97 a6 ?_ _ 256 lY.out Tryd.underlying97 ?_ ?_ ?_); rfl; rfl; kernel_rfl)
        | (go_at_call 74; refine (HN.out _).mono ?_; rintro e w8 ⟨rfl, b8⟩)
        | ((with_reducible refine wpList_storeFA 81 (bw.trans (b8.mono bw.size)) (aR.below b8) hHl Z ?_ ?_ 4 lZ.out ?_ ?_ oZ.out ?_); rfl; rfl; kernel_rfl; rfl; intro w9 a9 b9 k9 z9; clear k9 z9))
      refine bodyPost_ret ((results_cellU (C := Z) (by rfl) (by rfl) a9 _ Tryd.underlying81 rfl 4 lZ.out (by kernel_rfl)).trans (by rfl)) (by rfl) ⟨by rw [← hF]; rfl, b9⟩
end Go.Proofs.YtjgdmpbaikhflaaDoor
