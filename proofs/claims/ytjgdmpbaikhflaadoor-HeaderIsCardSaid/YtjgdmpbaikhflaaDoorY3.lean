/- The reference's numbers: of digits. -/
import Derived.Test.YtjgdmpbaikhflaaDoorPr16
import Derived.Test.YtjgdmpbaikhflaaDoorRelT
namespace Go.Proofs.YtjgdmpbaikhflaaDoor
open Go.RowKit
theorem size_u64R : (Tryd.prog.info? 52).map (·.size) = some 1 := by kernel_rfl
theorem uc_lenR (n : Nat) : (uc n).length = 4 := rfl
theorem uc_oneR (n : Nat) : (uc n).all (·.oneCell') = true := rfl
theorem uc_0R (n : Nat) : #[Value.int .u64 0, .int .u64 0, .int .u64 0, .int .u64 0] = (uc (n % 2 ^ 0)).toArray := by
  rw [Nat.pow_zero, Nat.mod_one]
  rfl
set_option maxRecDepth 100000 in
set_option maxHeartbeats 4000000 in
theorem RNumberD (n : Nat) (w : World) :
    Calls Tryd.prog 74 #[.agg (dgC n 256).toArray] w fun e w' => e = .returned (.agg (uc (n % 2 ^ 256)).toArray) ∧ Below w.heap.size w w' := by
  obtain ⟨B, hB⟩ : ∃ B, B = dgC n 256 := ⟨_, rfl⟩
  rw [← hB]
  obtain ⟨Z, hZ⟩ : ∃ Z, Z = uc (n % 2 ^ 256) := ⟨_, rfl⟩
  rw [← hZ]
  obtain ⟨W, hW⟩ : ∃ W, W = ((w.alloc (.cells B.toArray 97)).alloc (.cells #[.int .u64 0, .int .u64 0, .int .u64 0, .int .u64 0] 81)).alloc (.cells #[.int .u64 0, .int .u64 0, .int .u64 0, .int .u64 0] 81) := ⟨_, rfl⟩
  obtain ⟨H, hH⟩ : ∃ H, H = w.heap.size := ⟨_, rfl⟩
  have bW : Below H w W := by rw [hW, hH]; exact (((Below.refl _ _).alloc (Nat.le_refl _) _).alloc (by simp) _).alloc (by simp; omega) _
  have aB : Av W H 97 B := by rw [hW, hH]; exact Av.alloc (heap_alloc2_old _ _ _) _
  have aR : Av W (H + 1) 81 (uc (n % 2 ^ 0)) := by rw [hW, hH, uc_0R n]; exact Av.alloc (heap_alloc2_new _ _ _) _
  have aA : Av W (H + 1 + 1) 81 (uc (n % 2 ^ 0)) := by
    have e : ∀ (v : World) (o : Obj), (v.alloc o).heap.size = v.heap.size + 1 := fun v o => by simp
    have := heap_alloc_new ((w.alloc (.cells B.toArray 97)).alloc (.cells #[.int .u64 0, .int .u64 0, .int .u64 0, .int .u64 0] 81)) (.cells #[.int .u64 0, .int .u64 0, .int .u64 0, .int .u64 0] 81)
    rw [e, e] at this
    rw [hW, hH]
    rw [uc_0R n] at this ⊢
    exact this
  replace hZ := Lib.hid hZ
  replace hB := Lib.hid hB
  replace hW := Lib.hid hW
  replace hH := Lib.hid hH
  go_enter Tryd.func74, Tryd.ntmps74
  go_upto_region 2 with fail
  rw [← hW.out, ← hH.out]
  go_upto_region 3 with fail
  go_loopw [4] (fun i wr => ∃ k : Nat, k ≤ 256 ∧ i = .int .i64 (k : Int) ∧ Below H w wr ∧ Av wr H 97 B ∧ Av wr (H + 1) 81 (uc (n % 2 ^ 0)) ∧ Av wr (H + 1 + 1) 81 (uc (n % 2 ^ k))) (fun i _ => 256 - (intOf i).toNat)
  case atStart => exact ⟨0, by omega, rfl, bW, aB, aR, aA⟩
  case round =>
    clear aB aR aA bW
    obtain ⟨k, hk, rfl, bw, aB, aR, aA⟩ := hrel
    by_cases hlt : k < 256
    · have t1 : decide ((k : Int) < 256) = true := by simp; omega
      have e1 : Int.tdiv (k : Int) 64 = ((k / 64 : Nat) : Int) := by rw [Int.tdiv_eq_ediv_of_nonneg (by omega)]; omega
      have e2 : Int.tmod (k : Int) 64 = ((k % 64 : Nat) : Int) := by rw [Int.tmod_eq_emod_of_nonneg (by omega)]; omega
      have hnx := uc_next n k hlt
      have cD := dgC_at n 256 k hlt
      rw [if_pos hlt, ← hB.out] at cD
      obtain ⟨d, hd⟩ : ∃ d, d = dbit n k := ⟨_, rfl⟩
      have hd2 : d < 2 := by rw [hd]; exact dbit_lt n k
      rw [← hd] at cD hnx
      obtain ⟨q, hq⟩ : ∃ q, q = k / 64 := ⟨_, rfl⟩
      obtain ⟨r, hr⟩ : ∃ r, r = k % 64 := ⟨_, rfl⟩
      have hq4 : q < 4 := by omega
      have hr6 : r < 64 := by omega
      rw [← hq] at e1 hnx
      rw [← hr] at e2 hnx
      have cL := uc_getR (n % 2 ^ k) q hq4
      have hLl := lim_lt (n % 2 ^ k) q
      obtain ⟨L, hL⟩ : ∃ L, L = lim (n % 2 ^ k) q := ⟨_, rfl⟩
      rw [← hL] at cL hnx hLl
      obtain ⟨V, hV⟩ : ∃ V, V = uc (n % 2 ^ k) := ⟨_, rfl⟩
      rw [← hV] at cL hnx aA
      have hp : 2 ^ r ≤ 2 ^ 63 := Nat.pow_le_pow_right (by omega) (by omega)
      obtain ⟨Q, hQ⟩ : ∃ Q, Q = d * 2 ^ r := ⟨_, rfl⟩
      have hQl : Q < 18446744073709551616 := by
        have h1 : d * 2 ^ r ≤ 1 * 2 ^ 63 := Nat.mul_le_mul (by omega) hp
        rw [← hQ] at h1
        exact Nat.lt_of_le_of_lt h1 (by decide)
      have e5 : IntKind.u64.wrap ((d : Int) * 2 ^ r) = (Q : Int) := by
        have h1 : ((d : Int) * 2 ^ r) = (Q : Int) := by rw [hQ]; simp
        rw [h1, IntKind.wrap_u64]; omega
      rw [← hQ] at hnx
      obtain ⟨P2, hP2⟩ : ∃ P, P = L ||| Q := ⟨_, rfl⟩
      have o1 : bits .or .u64 (L : Int) (Q : Int) = (P2 : Int) := by
        rw [hP2]
        exact (bits_nat .u64 64 (by decide) wraps_u64 L Q hLl hQl).2
      rw [← hP2] at hnx
      have e4 : IntKind.u64.wrap (d : Int) = (d : Int) := by rw [IntKind.wrap_u64]; omega
      have e6 : IntKind.u64.wrap (r : Int) = (r : Int) := by rw [IntKind.wrap_u64]; omega
      have q0 : (0 : Int) ≤ (q : Int) := by omega
      have q1 : (q : Int) < 4 := by omega
      have r0 : (0 : Int) ≤ (r : Int) := by omega
      have r1 : (r : Int) < 64 := by omega
      have k0 : (0 : Int) ≤ (k : Int) := by omega
      have k1 : (k : Int) < 256 := by omega
      have hVl : q < V.length := by rw [hV]; exact hq4
      replace hnx := Lib.hid hnx
      replace cD := Lib.hid cD
      replace cL := Lib.hid cL
      replace hd := Lib.hid hd
      replace hq := Lib.hid hq
      replace hr := Lib.hid hr
      replace hL := Lib.hid hL
      replace hV := Lib.hid hV
      replace hQ := Lib.hid hQ
      replace hP2 := Lib.hid hP2
      replace e4 := Lib.hid e4
      replace e5 := Lib.hid e5
      replace e6 := Lib.hid e6
      have e7 : IntKind.i64.wrap (q : Int) = (q : Int) := by rw [IntKind.wrap_i64]; omega
      replace e7 := Lib.hid e7
      replace o1 := Lib.hid o1
      clear hp hQl hLl
      go_upto_region 5 with fail
      refine wp_region_relT 16 [] Ext (by kernel_rfl) (by kernel_rfl) (by kernel_rfl) (by kernel_rfl) (by kernel_rfl) Ext.refl Ext.trans (by intro p hp; cases hp) ?_
      refine relMove Ext.refl rfl rfl rfl rfl _ (.inl rfl) (by conv => lhs; whnf) (by simp only [List.set_cons_succ, List.set_cons_zero]; rfl) ?_
      refine relPure Ext.refl rfl rfl rfl rfl (c := .int .i64 (q : Int)) (fun w _ => by have := e1; have := e7.out; go_simp; first | done | rfl) (by simp only [List.set_cons_succ, List.set_cons_zero]; rfl) ?_
      refine relMove Ext.refl rfl rfl rfl rfl _ (.inl rfl) (by conv => lhs; whnf) (by simp only [List.set_cons_succ, List.set_cons_zero]; rfl) ?_
      refine relPure Ext.refl rfl rfl rfl rfl (c := .int .i64 (q : Int)) (fun w _ => by have := e1; have := e7.out; go_simp; first | done | rfl) (by simp only [List.set_cons_succ, List.set_cons_zero]; rfl) ?_
      refine relPure Ext.refl rfl rfl rfl rfl (c := .pointer (some ⟨H + 1 + 1, q, none⟩)) (fun w _ => by have := q0; have := q1; go_simp; first | done | rfl) (by simp only [List.set_cons_succ, List.set_cons_zero]; rfl) ?_
      refine relPure Ext.refl rfl rfl rfl rfl (c := .int .u64 (L : Int)) (fun w hw => by have := (aA.below hw.drew).cell q _ cL.out; go_simp; first | done | rfl) (by simp only [List.set_cons_succ, List.set_cons_zero]; rfl) ?_
      refine relMove Ext.refl rfl rfl rfl rfl _ (.inl rfl) (by conv => lhs; whnf) (by simp only [List.set_cons_succ, List.set_cons_zero]; rfl) ?_
      refine relPure Ext.refl rfl rfl rfl rfl (c := .pointer (some ⟨H, k, none⟩)) (fun w _ => by have := k0; have := k1; go_simp; first | done | rfl) (by simp only [List.set_cons_succ, List.set_cons_zero]; rfl) ?_
      refine relPure Ext.refl rfl rfl rfl rfl (c := .int .i64 (d : Int)) (fun w hw => by have := (aB.below hw.drew).cell k _ cD.out; go_simp; first | done | rfl) (by simp only [List.set_cons_succ, List.set_cons_zero]; rfl) ?_
      refine relPure Ext.refl rfl rfl rfl rfl (c := .int .u64 (d : Int)) (fun w _ => by have := e4.out; go_simp; first | done | rfl) (by simp only [List.set_cons_succ, List.set_cons_zero]; rfl) ?_
      refine relMove Ext.refl rfl rfl rfl rfl _ (.inl rfl) (by conv => lhs; whnf) (by simp only [List.set_cons_succ, List.set_cons_zero]; rfl) ?_
      refine relPure Ext.refl rfl rfl rfl rfl (c := .int .i64 (r : Int)) (fun w _ => by have := e2; go_simp; first | done | rfl) (by simp only [List.set_cons_succ, List.set_cons_zero]; rfl) ?_
      refine relPure Ext.refl rfl rfl rfl rfl (c := .int .u64 (r : Int)) (fun w _ => by have := e6.out; go_simp; first | done | rfl) (by simp only [List.set_cons_succ, List.set_cons_zero]; rfl) ?_
      refine relPure Ext.refl rfl rfl rfl rfl (c := .int .u64 (Q : Int)) (fun w _ => by have := e5.out; have := r0; have := r1; go_simp; first | done | rfl) (by simp only [List.set_cons_succ, List.set_cons_zero]; rfl) ?_
      refine relPure Ext.refl rfl rfl rfl rfl (c := .int .u64 (P2 : Int)) (fun w _ => by have := o1.out; go_simp; first | done | rfl) (by simp only [List.set_cons_succ, List.set_cons_zero]; rfl) ?_
      refine relPure Ext.refl rfl rfl rfl rfl (c := .pointer (some ⟨H + 1 + 1, q, none⟩)) (fun w _ => by have := q0; have := q1; go_simp; first | done | rfl) (by simp only [List.set_cons_succ, List.set_cons_zero]; rfl) ?_
      refine relEnd fun w2 hw2 => fill_end ?_
      have c0 := aB.below hw2.drew
      have c1 := aR.below hw2.drew
      have c2 := aA.below hw2.drew
      have b2 := bw.trans (hw2.drew.mono (by rw [hH.out]; exact bw.size))
      simp only [List.drop_succ_cons, List.drop_zero]
      ((with_reducible refine wpList_storeI 52 c2 hVl .u64 (P2 : Int) ?_ ?_ size_u64R ?_); rfl; rfl; intro w3 d2 f3)
      rw [hnx.out] at d2
      have d0 := f3.av c0 (by omega)
      have d1 := f3.av c1 (by omega)
      have b3 := b2.trans (f3.below (B := H) (fun k hk => by omega) (Nat.le_trans (by rw [hH.out]; exact Nat.le_refl _) b2.size))
      clear c0 c1 c2 b2 f3 aB aR aA bw
      go_wp2
      refine ⟨⟨k + 1, by omega, by go_num, b3, d0, d1, d2⟩, ?_⟩
      simp [intOf]
      omega
    · obtain rfl : k = 256 := by omega
      have t1 : decide ((256 : Int) < 256) = false := by simp
      have one := Lib.hid (uc_oneR (n % 2 ^ 256))
      have zl := Lib.hid (uc_lenR (n % 2 ^ 256))
      rw [← hZ.out] at aA one zl
      have hHl : H ≤ H + 1 := by omega
      go_wp2_with (first
        | ((with_reducible refine wpList_loadF 81 aA ?_ _ 4 zl.out Tryd.underlying81 ?_ ?_ ?_); rfl; rfl; kernel_rfl)
        | ((with_reducible refine wpList_storeFA 81 bw aR hHl Z ?_ ?_ 4 zl.out ?_ ?_ one.out ?_); rfl; rfl; kernel_rfl; rfl; intro w4 a4 b4 k4 z4; clear k4 z4))
      refine bodyPost_ret (results_cell_row rfl _ _ (H + 1) _ _ (0, 0) _ (by rfl) a4 Tryd.underlying81 rfl (by rw [List.size_toArray, zl.out]; kernel_rfl)) rfl ⟨rfl, by rw [← hH.out]; exact b4⟩
end Go.Proofs.YtjgdmpbaikhflaaDoor
