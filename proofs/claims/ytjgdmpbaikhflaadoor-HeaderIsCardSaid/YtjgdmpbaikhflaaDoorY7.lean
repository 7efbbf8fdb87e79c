/- The reference's FromBytes. -/
import Derived.Test.YtjgdmpbaikhflaaDoorY6
namespace Go.Proofs.YtjgdmpbaikhflaaDoor
open Go.RowKit
/-- a number of bytes, the highest first -/
def beN (bs : List UInt8) : Nat := bs.foldl (fun s b => s * 256 + b.toNat) 0
theorem beN_take (bs : List UInt8) (k : Nat) (x : UInt8) (h : bs[k]? = some x) : beN (bs.take (k + 1)) = beN (bs.take k) * 256 + x.toNat := by
  rw [List.take_add_one, h, beN, List.foldl_append]
  rfl
theorem beN_lt (bs : List UInt8) (k : Nat) : beN (bs.take k) < 2 ^ (8 * k) := by
  induction k with
  | zero => simp [beN]
  | succ k ih =>
    have e : 2 ^ (8 * (k + 1)) = 2 ^ (8 * k) * 256 := by rw [Nat.mul_add, Nat.pow_add]
    cases h : bs[k]? with
    | none =>
      have : bs.take (k + 1) = bs.take k := by
        rw [List.take_add_one, h]; simp
      rw [this, e]
      omega
    | some x =>
      rw [beN_take bs k x h, e]
      have := Cm.u8_lt x
      omega
theorem lim_low (n y : Nat) (h : n % 256 = 0) (hy : y < 256) : lim (n + y) 0 = lim n 0 ||| y ∧ lim (n + y) 1 = lim n 1 ∧ lim (n + y) 2 = lim n 2 ∧ lim (n + y) 3 = lim n 3 := by
  obtain ⟨m, rfl⟩ : ∃ m, n = 256 * m := ⟨n / 256, by omega⟩
  have hd : (256 * m + y) / 256 = m ∧ 256 * m / 256 = m := ⟨by omega, by omega⟩
  have up : ∀ q : Nat, (256 * m + y) / (256 * q) = 256 * m / (256 * q) := fun q => by
    rw [← Nat.div_div_eq_div_mul, ← Nat.div_div_eq_div_mul, hd.1, hd.2]
  unfold lim
  refine ⟨?_, ?_, ?_, ?_⟩
  · rw [Nat.pow_zero, Nat.div_one, Nat.div_one]
    have e : (256 * m) % 18446744073709551616 = 2 ^ 8 * (m % 72057594037927936) := by omega
    rw [e, ← Nat.two_pow_add_eq_or_of_lt (by omega : y < 2 ^ 8)]
    omega
  · rw [show (18446744073709551616 : Nat) ^ 1 = 256 * 72057594037927936 by decide, up]
  · rw [show (18446744073709551616 : Nat) ^ 2 = 256 * (72057594037927936 * 18446744073709551616) by decide, up]
  · rw [show (18446744073709551616 : Nat) ^ 3 = 256 * (72057594037927936 * 18446744073709551616 * 18446744073709551616) by decide, up]
theorem uc_low (n y : Nat) (h : n % 256 = 0) (hy : y < 256) : (uc n).set 0 (.int .u64 ((lim n 0 ||| y : Nat) : Int)) = uc (n + y) := by
  obtain ⟨e0, e1, e2, e3⟩ := lim_low n y h hy
  simp only [uc]
  rw [e0, e1, e2, e3]
  rfl
set_option maxRecDepth 100000 in
set_option maxHeartbeats 4000000 in
theorem RFromBytes (bs : List UInt8) (A : Option Addr) (n c : Nat) (hn : bs.length = n) (hn2 : n ≤ 32) (w : World) (hr : Rd w A (bs.map bv)) :
    Calls Tryd.prog 66 #[.slice A n c] w fun e w' => e = .returned (.tuple #[.agg (uc (beN bs)).toArray, .int .i64 0]) ∧ Below w.heap.size w w' := by
  obtain ⟨W, hW⟩ : ∃ W, W = w.alloc (.cells #[.int .u64 0, .int .u64 0, .int .u64 0, .int .u64 0] 81) := ⟨_, rfl⟩
  obtain ⟨H, hH⟩ : ∃ H, H = w.heap.size := ⟨_, rfl⟩
  have bW : Below w.heap.size w W := by rw [hW]; exact (Below.refl _ _).alloc (Nat.le_refl _) _
  have aR : Av W H 81 (uq4 0 0 0 0) := by rw [hW, hH]; exact heap_alloc_new _ _
  have hHw : Hid (w.heap.size ≤ H) := Lib.hid (by rw [hH]; exact Nat.le_refl _)
  have t0 : decide ((32 : Int) < (n : Int)) = false := by simp; omega
  obtain ⟨Z, hZ⟩ : ∃ Z, Z = uc (beN bs) := ⟨_, rfl⟩
  rw [← hZ]
  replace hZ := Lib.hid hZ
  replace hW := Lib.hid hW
  replace hH := Lib.hid hH
  replace hn := Lib.hid hn
  go_enter Tryd.func66, Tryd.ntmps66
  go_upto_region 1 with fail
  rw [← hW.out, ← hH.out]
  go_upto_region 4 with ((with_reducible refine wpList_storeF 81 ((Below.refl W.heap.size W).alloc (Nat.le_refl _) _) (heap_alloc_new _ _) (Nat.le_refl _) (uq4 0 0 0 0) ?_ ?_ 4 ?_ ?_ ?_ ?_ ?_); rfl; rfl; rfl; kernel_rfl; rfl; rfl; intro w1 a4 b1 k2 z2; clear k2 z2)
  have bw1 := bW.trans (b1.mono bW.size)
  have aR1 := aR.below b1
  obtain ⟨g4, hg4⟩ : ∃ g, g = W.heap.size := ⟨_, rfl⟩
  rw [← hg4] at a4 ⊢
  have hH4 : H < g4 := by rw [hg4]; exact aR.lt
  replace hg4 := Lib.hid hg4
  clear bW aR b1
  go_upto_region 5 with fail
  go_loopw [5] (fun iv wr => ∃ k : Nat, k ≤ n ∧ iv = .int .i64 (k : Int) ∧ Below w.heap.size w wr ∧ Av wr H 81 (uq4 0 0 0 0) ∧ Av wr g4 81 (uc (beN (bs.take k)))) (fun iv _ => n - (intOf iv).toNat)
  case atStart => exact ⟨0, by omega, rfl, bw1, aR1, by rw [show uc (beN (bs.take 0)) = uq4 0 0 0 0 from uc_small (by decide : (0 : Nat) < 18446744073709551616)]; exact a4⟩
  case round =>
    clear bw1 aR1 a4
    obtain ⟨k, hk, rfl, bw, aR, a4⟩ := hrel
    by_cases hlt : k < n
    · have t1 : decide ((k : Int) < (n : Int)) = true := by simp; omega
      obtain ⟨x, hx⟩ : ∃ x, bs[k]? = some x := ⟨_, List.getElem?_eq_getElem (by rw [hn.out]; exact hlt)⟩
      have hne : bs.map bv ≠ [] := by
        intro h
        rw [List.map_eq_nil_iff] at h
        rw [h] at hx
        cases hx
      obtain ⟨b, off, rfl⟩ := hr.someA hne
      obtain ⟨y, hy⟩ : ∃ y, y = x.toNat := ⟨_, rfl⟩
      have hy2 : y < 256 := by rw [hy]; exact Cm.u8_lt x
      have cy : ∀ w', Below w.heap.size w w' → w'.cell? ⟨b, off + k, none⟩ = some (.int .u8 (y : Int)) := fun w' hE => by
        rcases hr.below hE with h | ⟨b2, o2, h1, h2⟩
        · exact absurd h hne
        · injection h1 with h1
          injection h1 with h3 h4
          subst h3 h4
          rw [hy]
          exact h2 k _ (by rw [List.getElem?_map, hx]; rfl)
      have hV1 := beN_lt bs k
      have hnx := beN_take bs k x hx
      rw [← hy] at hnx
      obtain ⟨V, hV⟩ : ∃ V, V = beN (bs.take k) := ⟨_, rfl⟩
      rw [← hV] at hV1 hnx a4
      have hp8 : 2 ^ (8 * k) ≤ 2 ^ 248 := Nat.pow_le_pow_right (by omega) (by omega)
      have hVl : V < 2 ^ 248 := Nat.lt_of_lt_of_le hV1 hp8
      have HS := RShl V (Nat.lt_trans hVl (by decide)) 8 8 (by decide) (by omega)
      have h256 : (2 : Nat) ^ 256 = 2 ^ 248 * 256 := by decide
      have hm : V * 2 ^ 8 % 2 ^ 256 = V * 256 := by
        rw [h256]
        exact Nat.mod_eq_of_lt (Nat.mul_lt_mul_of_pos_right hVl (by decide))
      rw [hm] at HS
      clear h256 hm
      obtain ⟨LB, hLB⟩ : ∃ q, q = decide (2 ^ 256 ≤ V * 2 ^ 8) := ⟨_, rfl⟩
      rw [← hLB] at HS
      have hset := uc_low (V * 256) y (by omega) hy2
      rw [← hnx] at hset
      have cL := uc_getR (V * 256) 0 (by omega)
      have hLl := lim_lt (V * 256) 0
      obtain ⟨L, hL⟩ : ∃ L, L = lim (V * 256) 0 := ⟨_, rfl⟩
      rw [← hL] at cL hset hLl
      obtain ⟨P2, hP2⟩ : ∃ P, P = L ||| y := ⟨_, rfl⟩
      have o1 : bits .or .u64 (L : Int) (y : Int) = (P2 : Int) := by
        rw [hP2]
        exact (bits_nat .u64 64 (by decide) wraps_u64 L y hLl (by omega)).2
      rw [← hP2] at hset
      have e4 : IntKind.u64.wrap (y : Int) = (y : Int) := by rw [IntKind.wrap_u64]; omega
      obtain ⟨V2, hV2⟩ : ∃ V2, V2 = uc (V * 256) := ⟨_, rfl⟩
      rw [← hV2] at HS cL hset
      have lV2 : Hid (V2.length = 4) := Lib.hid (by rw [hV2]; rfl)
      have oV2 : Hid (V2.all (·.oneCell') = true) := Lib.hid (by rw [hV2]; rfl)
      obtain ⟨U1, hU1⟩ : ∃ U1, U1 = uc V := ⟨_, rfl⟩
      rw [← hU1] at HS a4
      have lU1 : Hid (U1.length = 4) := Lib.hid (by rw [hU1]; rfl)
      have k0 : (0 : Int) ≤ (k : Int) := by omega
      have k1 : (k : Int) < (n : Int) := by omega
      replace HS := Lib.hid HS
      replace hset := Lib.hid hset
      replace cL := Lib.hid cL
      replace o1 := Lib.hid o1
      replace e4 := Lib.hid e4
      replace cy := Lib.hid cy
      replace hy := Lib.hid hy
      replace hx := Lib.hid hx
      replace hL := Lib.hid hL
      replace hP2 := Lib.hid hP2
      replace hV2 := Lib.hid hV2
      replace hU1 := Lib.hid hU1
      replace hLB := Lib.hid hLB
      replace hV := Lib.hid hV
      replace hnx := Lib.hid hnx
      clear hp8 hVl hV1 hLl hne
      go_upto_region 8 with (first
        | ((with_reducible refine wpList_loadF 81 a4 ?_ _ 4 lU1.out Tryd.underlying81 ?_ ?_ ?_); rfl; rfl; kernel_rfl)
        | (go_at_call 64; refine (HS.out _).mono ?_; rintro e w5 ⟨rfl, b5⟩)
        | ((with_reducible refine wpList_storeF 81 ((Below.refl w5.heap.size w5).alloc (Nat.le_refl _) _) (heap_alloc_new _ _) (Nat.le_refl _) V2 ?_ ?_ 4 lV2.out ?_ ?_ oV2.out ?_); rfl; rfl; kernel_rfl; rfl; intro w6 a6 b6 k6 z6; clear k6 z6))
      have b56 := b5.trans (b6.mono b5.size)
      have bw6 := bw.trans (b56.mono bw.size)
      have aR6 := aR.below b56
      have a46 := a4.below b56
      have h46 : g4 < w5.heap.size := Nat.lt_of_lt_of_le a4.lt b5.size
      have hw5 : w.heap.size ≤ w5.heap.size := (bw.trans (b5.mono bw.size)).size
      obtain ⟨g6, hg6⟩ : ∃ g, g = w5.heap.size := ⟨_, rfl⟩
      rw [← hg6] at a6 h46 hw5 ⊢
      replace hg6 := Lib.hid hg6
      replace cy : Hid (∀ w', Below w6.heap.size w6 w' → w'.cell? ⟨b, off + k, none⟩ = some (.int .u8 (y : Int))) := Lib.hid (fun w' hE => cy.out w' (bw6.trans (hE.mono bw6.size)))
      have hl0 : 0 < V2.length := by rw [lV2.out]; omega
      clear b5 b6 b56 bw aR a4
      refine wp_region_relT 9 [] Ext (by kernel_rfl) (by kernel_rfl) (by kernel_rfl) (by kernel_rfl) (by kernel_rfl) Ext.refl Ext.trans (by intro p hp; cases hp) ?_
      refine relPure Ext.refl rfl rfl rfl rfl (c := .pointer (some ⟨g6, 0, none⟩)) (fun w _ => by go_simp; first | done | rfl) (by simp only [List.set_cons_succ, List.set_cons_zero]; rfl) ?_
      refine relPure Ext.refl rfl rfl rfl rfl (c := .int .u64 (L : Int)) (fun w hw => by have := (a6.below hw.drew).cell 0 _ cL.out; go_simp; first | done | rfl) (by simp only [List.set_cons_succ, List.set_cons_zero]; rfl) ?_
      refine relMove Ext.refl rfl rfl rfl rfl _ (.inl rfl) (by conv => lhs; whnf) (by simp only [List.set_cons_succ, List.set_cons_zero]; rfl) ?_
      refine relMove Ext.refl rfl rfl rfl rfl _ (.inl rfl) (by conv => lhs; whnf) (by simp only [List.set_cons_succ, List.set_cons_zero]; rfl) ?_
      refine relPure Ext.refl rfl rfl rfl rfl (c := .pointer (some ⟨b, off + k, none⟩)) (fun w _ => by have := k0; have := k1; go_simp; first | done | rfl) (by simp only [List.set_cons_succ, List.set_cons_zero]; rfl) ?_
      refine relPure Ext.refl rfl rfl rfl rfl (c := .int .u8 (y : Int)) (fun w hw => by have := cy.out _ hw.drew; go_simp; first | done | rfl) (by simp only [List.set_cons_succ, List.set_cons_zero]; rfl) ?_
      refine relPure Ext.refl rfl rfl rfl rfl (c := .int .u64 (y : Int)) (fun w _ => by have := e4.out; go_simp; first | done | rfl) (by simp only [List.set_cons_succ, List.set_cons_zero]; rfl) ?_
      refine relPure Ext.refl rfl rfl rfl rfl (c := .int .u64 (P2 : Int)) (fun w _ => by have := o1.out; go_simp; first | done | rfl) (by simp only [List.set_cons_succ, List.set_cons_zero]; rfl) ?_
      refine relPure Ext.refl rfl rfl rfl rfl (c := .pointer (some ⟨g6, 0, none⟩)) (fun w _ => by go_simp; first | done | rfl) (by simp only [List.set_cons_succ, List.set_cons_zero]; rfl) ?_
      refine relEnd fun w7 hw7 => fill_end ?_
      have c0 := aR6.below hw7.drew
      have c1 := a46.below hw7.drew
      have c2 := a6.below hw7.drew
      have b7 := bw6.trans (hw7.drew.mono bw6.size)
      simp only [List.drop_succ_cons, List.drop_zero]
      ((with_reducible refine wpList_storeI 52 c2 hl0 .u64 (P2 : Int) ?_ ?_ size_u64R ?_); rfl; rfl; intro w8 d2 f8)
      rw [hset.out] at d2
      have d0 := f8.av c0 (by omega)
      have d1 := f8.av c1 (by omega)
      have b8 := b7.trans (f8.below (B := w.heap.size) (fun k hk => by omega) b7.size)
      have hg4w : w.heap.size ≤ g4 := by have := hHw.out; omega
      clear c0 c1 c2 b7 f8 aR6 a46 a6 bw6 hw7
      obtain ⟨U3, hU3⟩ : ∃ U, U = uc (beN (bs.take (k + 1))) := ⟨_, rfl⟩
      rw [← hU3] at d2
      have lU3 : Hid (U3.length = 4) := Lib.hid (by rw [hU3]; rfl)
      have oU3 : Hid (U3.all (·.oneCell') = true) := Lib.hid (by rw [hU3]; rfl)
      replace hU3 := Lib.hid hU3
      go_upto_region 6 with (first
        | ((with_reducible refine wpList_loadF 81 d2 ?_ _ 4 lU3.out Tryd.underlying81 ?_ ?_ ?_); rfl; rfl; kernel_rfl)
        | ((with_reducible refine wpList_storeFA 81 b8 d1 hg4w U3 ?_ ?_ 4 lU3.out ?_ lU1.out oU3.out ?_); rfl; rfl; kernel_rfl; intro w9 a9 b9 k9 z9))
      have e0 : Av w9 H 81 (uq4 0 0 0 0) := d0.same (k9 H (by omega))
      rw [hU3.out] at a9
      clear k9 z9 d0 d1 d2 b8
      go_wp2
      refine ⟨⟨k + 1, by omega, by go_num, b9, e0, a9⟩, ?_⟩
      simp [intOf]
      omega
    · obtain rfl : k = n := by omega
      have t1 : decide ((k : Int) < (k : Int)) = false := by simp
      rw [List.take_of_length_le (by rw [hn.out]; exact Nat.le_refl _), ← hZ.out] at a4
      have lZ : Hid (Z.length = 4) := Lib.hid (by rw [hZ.out]; rfl)
      have oZ : Hid (Z.all (·.oneCell') = true) := Lib.hid (by rw [hZ.out]; rfl)
      go_wp2_with (first
        | ((with_reducible refine wpList_loadF 81 a4 ?_ _ 4 lZ.out Tryd.underlying81 ?_ ?_ ?_); rfl; rfl; kernel_rfl)
        | ((with_reducible refine wpList_storeFA 81 bw aR hHw.out Z ?_ ?_ 4 lZ.out ?_ ?_ oZ.out ?_); rfl; rfl; kernel_rfl; rfl; intro w9 a9 b9 k9 z9; clear k9 z9))
      refine bodyPost_ret ((results_cellU (C := Z) (by rfl) (by rfl) a9 _ Tryd.underlying81 rfl 4 lZ.out (by kernel_rfl)).trans (by rfl)) (by rfl) ⟨rfl, b9⟩
end Go.Proofs.YtjgdmpbaikhflaaDoor
