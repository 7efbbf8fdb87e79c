/- merkle.Climb, of any place (as XClb, without the laws of layer 10). -/
import Derived.Test.YtngindljhlbglaaDoorClv
namespace Go.Proofs.YtngindljhlbglaaDoor
open Go.RowKit

set_option maxRecDepth 10000 in
set_option maxHeartbeats 2000000 in
theorem Climb (x : List UInt8) (hx32 : x.length = 32) (br : List (List UInt8)) (h32 : All32 br) (ki : Int) (k : Nat) (m1 : max ki 0 = (k : Int)) (hk : k < 9223372036854775808) (A : Option Addr) (n c : Nat) (hn : br.length = n) (hn2 : n ≤ 1000) (w : World) (hr : Rd w A (hcl br)) (ht : Tabs w) :
    Calls Tryd.prog 17 #[.agg (hcs x), .slice A n c, .int .i64 ki] w fun e w' => e = .returned (.agg (hcs (mClimb x br k))) ∧ Below w.heap.size w w' := by
  have hz := zeros_32
  have hzl : (List.replicate 32 (0 : UInt8)).length = 32 := by simp
  obtain ⟨zs, hzs⟩ : ∃ zs : List UInt8, zs = List.replicate 32 0 := ⟨_, rfl⟩
  rw [← hzs] at hz hzl
  clear hzs
  replace hzl := Lib.hid hzl
  obtain ⟨res, hres⟩ : ∃ r, r = mClimb x br k := ⟨_, rfl⟩
  have hrl : res.length = 32 := by rw [hres]; exact mClimb_length x br k hx32
  rw [← hres]
  replace hres := Lib.hid hres
  replace hrl := Lib.hid hrl
  replace hn := Lib.hid hn
  have hcase : (decide (ki < 0) = false ∧ ki = (k : Int)) ∨ (decide (ki < 0) = true ∧ k = 0 ∧ ki < 0) := by
    by_cases h : ki < 0
    · exact .inr ⟨by simp [h], by omega, h⟩
    · exact .inl ⟨by simp [h], by omega⟩
  rcases hcase with ⟨m2, rfl⟩ | ⟨m2, hk0, hneg⟩ <;>
  · go_enter Tryd.func17, Tryd.ntmps17
    have b0 : Below w.heap.size w ((w.alloc (.cells (x.map bv).toArray 25)).alloc (.cells (zs.map bv).toArray 25)) := ((Below.refl _ _).alloc (Nat.le_refl _) _).alloc (by simp) _
    have a0 : Av ((w.alloc (.cells (x.map bv).toArray 25)).alloc (.cells (zs.map bv).toArray 25)) w.heap.size 25 (x.map bv) := heap_alloc2_old _ _ _
    have a1 : Av ((w.alloc (.cells (x.map bv).toArray 25)).alloc (.cells (zs.map bv).toArray 25)) (w.heap.size + 1) 25 (zs.map bv) := heap_alloc2_new _ _ _
    go_wp2
    all_goals try (exfalso; omega)
    generalize (w.alloc (.cells (x.map bv).toArray 25)).alloc (.cells (zs.map bv).toArray 25) = w0 at *
    go_loopw [2, 8, 13] (fun i _ s wr => ∃ (j i' : Nat) (y : List UInt8), j ≤ n ∧ s = .int .i64 (j : Int) ∧ i = .int .i64 (i' : Int) ∧ i' ≤ k ∧ y.length = 32 ∧ mClimb y (br.drop j) i' = res ∧ Below w.heap.size w wr ∧ Av wr w.heap.size 25 (y.map bv) ∧ Av wr (w.heap.size + 1) 25 (zs.map bv)) (fun _ _ s _ => n - (intOf s).toNat)
    case atStart => exact ⟨0, k, x, by omega, rfl, by first | rfl | (rw [hk0]; rfl), Nat.le_refl _, hx32, by rw [hres.out]; rfl, b0, a0, a1⟩
    case round =>
      clear a0 a1 b0
      obtain ⟨j, i', y, hj, rfl, rfl, hi, hy32, hcl, hb, ha, hra⟩ := hrel
      by_cases hlt : j < n
      · have t1 : decide ((j : Int) < (n : Int)) = true := by simp; omega
        obtain ⟨bb, off, rfl⟩ := hr.someA (hcl_ne h32 (by rw [hn.out]; omega))
        obtain ⟨o, ho⟩ : ∃ o, o = br.getD j [] := ⟨_, rfl⟩
        have ho32 : o.length = 32 := by rw [ho]; exact h32.get _ (by rw [hn.out]; omega)
        have hdr : br.drop j = o :: br.drop (j + 1) := by
          rw [List.drop_eq_getElem_cons (by rw [hn.out]; omega), ho, List.getD_eq_getElem?_getD, List.getElem?_eq_getElem (by rw [hn.out]; omega)]
          rfl
        rw [hdr, mClimb] at hcl
        have hro := ho ▸ (hr.below hb).hash h32 j (by rw [hn.out]; omega)
        clear ho hdr
        have n0 : 0 ≤ (j : Int) := by omega
        have n1 : (j : Int) < (n : Int) := by omega
        have d1 : (i' : Int) / 2 = ((i' / 2 : Nat) : Int) := by omega
        obtain ⟨i2, hi2⟩ : ∃ i2, i' / 2 = i2 := ⟨_, rfl⟩
        rw [hi2] at d1 hcl
        go_upto_region 5 with (first
          | (refine wpList_load_mid rfl _ _ rfl bb (off + j * 32) rfl (o.map bv) _ hro Tryd.underlying25 rfl (by rw [List.length_map, ho32]; kernel_rfl) ?_)
          | (refine wpList_storeAv (hb.alloc hb.size _) (heap_alloc_new _ _) hb.size rfl _ _ _ rfl rfl (o.map bv) rfl 32 (by rw [List.length_map, ho32]) (by kernel_rfl) (by rw [List.size_toArray, List.length_map]; exact hzl.out) (by simp [Value.oneCell']) ?_; intro w3 a3 b3 k3 s3; replace s3 := Lib.hid s3))
        have q1 := Lib.hid ha.lt
        replace ha := (ha.alloc (.cells (zs.map bv).toArray 25)).same (k3 _ (Nat.ne_of_lt ha.lt))
        replace hra := (hra.alloc (.cells (zs.map bv).toArray 25)).same (k3 _ (Nat.ne_of_lt hra.lt))
        clear k3 hro hb
        by_cases hodd : i' % 2 = 1
        · have t2 : (((i' : Int) % 2) == 1) = true := by simp; omega
          rw [if_pos hodd] at hcl
          have HP := Lib.hid (fun w ht => Pair o y ho32 hy32 w ht)
          obtain ⟨z, hzz⟩ : ∃ z, z = pairB o y := ⟨_, rfl⟩
          have hz32 : z.length = 32 := by rw [hzz]; exact pairB_length _ _
          rw [← hzz] at HP hcl
          clear hzz
          go_wp2_with (first
            | (refine wpList_loadAv a3 rfl _ _ rfl rfl _ 32 (by rw [List.length_map, ho32]) Tryd.underlying25 rfl (by kernel_rfl) ?_)
            | (refine wpList_loadAv ha rfl _ _ rfl rfl _ 32 (by rw [List.length_map, hy32]) Tryd.underlying25 rfl (by kernel_rfl) ?_))
          refine (HP.out w3 (ht.below b3)).mono ?_
          rintro e w4 ⟨rfl, b4⟩
          replace ha := ha.below b4
          replace hra := hra.below b4
          replace b4 := b3.trans (b4.mono b3.size)
          clear a3 b3 HP
          go_wp2_with (refine wpList_storeAv b4 ha (Nat.le_refl _) rfl _ _ _ rfl rfl (z.map bv) rfl 32 (by rw [List.length_map, hz32]) (by kernel_rfl) (by rw [List.size_toArray, List.length_map, hy32]) (by simp [Value.oneCell']) ?_; intro w5 a5 b5 k5 s5; replace s5 := Lib.hid s5)
          refine ⟨⟨j + 1, i2, z, by omega, by rfl, rfl, by omega, hz32, hcl, b5, a5, hra.same (k5 _ (by omega))⟩, ?_⟩
          simp only [intOf]; omega
        · have t2 : (((i' : Int) % 2) == 1) = false := by simp; omega
          rw [if_neg hodd] at hcl
          have HP := Lib.hid (fun w ht => Pair y o hy32 ho32 w ht)
          obtain ⟨z, hzz⟩ : ∃ z, z = pairB y o := ⟨_, rfl⟩
          have hz32 : z.length = 32 := by rw [hzz]; exact pairB_length _ _
          rw [← hzz] at HP hcl
          clear hzz
          go_wp2_with (first
            | (refine wpList_loadAv a3 rfl _ _ rfl rfl _ 32 (by rw [List.length_map, ho32]) Tryd.underlying25 rfl (by kernel_rfl) ?_)
            | (refine wpList_loadAv ha rfl _ _ rfl rfl _ 32 (by rw [List.length_map, hy32]) Tryd.underlying25 rfl (by kernel_rfl) ?_))
          refine (HP.out w3 (ht.below b3)).mono ?_
          rintro e w4 ⟨rfl, b4⟩
          replace ha := ha.below b4
          replace hra := hra.below b4
          replace b4 := b3.trans (b4.mono b3.size)
          clear a3 b3 HP
          go_wp2_with (refine wpList_storeAv b4 ha (Nat.le_refl _) rfl _ _ _ rfl rfl (z.map bv) rfl 32 (by rw [List.length_map, hz32]) (by kernel_rfl) (by rw [List.size_toArray, List.length_map, hy32]) (by simp [Value.oneCell']) ?_; intro w5 a5 b5 k5 s5; replace s5 := Lib.hid s5)
          refine ⟨⟨j + 1, i2, z, by omega, by rfl, rfl, by omega, hz32, hcl, b5, a5, hra.same (k5 _ (by omega))⟩, ?_⟩
          simp only [intOf]; omega
      · obtain rfl : j = n := by omega
        have t1 : decide ((j : Int) < (j : Int)) = false := by simp
        rw [List.drop_of_length_le (by rw [hn.out]; exact Nat.le_refl _), mClimb] at hcl
        subst hcl
        go_wp2_with (first
          | (refine wpList_loadAv ha rfl _ _ rfl rfl _ 32 (by rw [List.length_map, hy32]) Tryd.underlying25 rfl (by kernel_rfl) ?_)
          | (refine wpList_storeAv hb hra (by omega) rfl _ _ _ rfl rfl (y.map bv) rfl 32 (by rw [List.length_map, hy32]) (by kernel_rfl) (by rw [List.size_toArray, List.length_map]; exact hzl.out) (by simp [Value.oneCell']) ?_; intro w6 a6 b6 k6 s6))
        refine bodyPost_ret (results_cell_row rfl _ _ (w.heap.size + 1) _ _ (0, 0) _ rfl a6 Tryd.underlying25 rfl (by rw [List.size_toArray, List.length_map, hy32]; kernel_rfl)) rfl ⟨rfl, b6⟩
end Go.Proofs.YtngindljhlbglaaDoor
