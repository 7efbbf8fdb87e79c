import Derived.Test.YtobjgebojhjhnaaDoorQr3
import Derived.Test.YtobjgebojhjhnaaDoorCMath
import Derived.Test.YtobjgebojhjhnaaDoorBits
import Derived.Test.YtobjgebojhjhnaaDoorQr1
import Derived.Deep.Cut
import Derived.Test.YtobjgebojhjhnaaDoorQr5
import Derived.Test.YtobjgebojhjhnaaDoorQr4
namespace Go.Proofs.YtobjgebojhjhnaaDoor
open Go.RowKit
abbrev uq4 (a b c d : Nat) : List Value := [.int .u64 (a : Int), .int .u64 (b : Int), .int .u64 (c : Int), .int .u64 (d : Int)]
def lim (n i : Nat) : Nat := n / 18446744073709551616 ^ i % 18446744073709551616
def uc (n : Nat) : List Value := uq4 (lim n 0) (lim n 1) (lim n 2) (lim n 3)
theorem lim_lt (n i : Nat) : lim n i < 18446744073709551616 := Nat.mod_lt _ (by decide)
theorem lim_small {n : Nat} (h : n < 18446744073709551616) : lim n 0 = n ∧ lim n 1 = 0 ∧ lim n 2 = 0 ∧ lim n 3 = 0 := by
 unfold lim
 refine ⟨?_, ?_, ?_, ?_⟩
 ·rw [Nat.pow_zero, Nat.div_one, Nat.mod_eq_of_lt h]
 ·rw [Nat.pow_one, Nat.div_eq_of_lt h]
 ·rw [Nat.div_eq_of_lt (by omega)]
 ·rw [Nat.div_eq_of_lt (by omega)]
theorem uc_small {n : Nat} (h : n < 18446744073709551616) : uc n = uq4 n 0 0 0 := by
 obtain ⟨h0, h1, h2, h3⟩ := lim_small h
 rw [uc, h0, h1, h2, h3]
theorem lim_sum {n : Nat} (h : n < 115792089237316195423570985008687907853269984665640564039457584007913129639936) :
  n = lim n 0 + 18446744073709551616 * lim n 1 + 340282366920938463463374607431768211456 * lim n 2 + 6277101735386680763835789423207666416102355444464034512896 * lim n 3 := by
 unfold lim
 rw [Nat.pow_zero, Nat.div_one, Nat.pow_one, show 18446744073709551616 ^ 2 = 340282366920938463463374607431768211456 from rfl, show 18446744073709551616 ^ 3 = 6277101735386680763835789423207666416102355444464034512896 from rfl]
 omega
theorem lim_of (a b c d : Nat) (ha : a < 18446744073709551616) (hb : b < 18446744073709551616) (hc : c < 18446744073709551616) (hd : d < 18446744073709551616) :
  ∃ n, n < 115792089237316195423570985008687907853269984665640564039457584007913129639936 ∧ n = a + 18446744073709551616 * b + 340282366920938463463374607431768211456 * c + 6277101735386680763835789423207666416102355444464034512896 * d ∧ lim n 0 = a ∧ lim n 1 = b ∧ lim n 2 = c ∧ lim n 3 = d := by
 refine ⟨_, ?_, rfl, ?_, ?_, ?_, ?_⟩
 ·omega
 all_goals unfold lim
 ·rw [Nat.pow_zero, Nat.div_one]; omega
 ·rw [Nat.pow_one]; omega
 ·rw [show 18446744073709551616 ^ 2 = 340282366920938463463374607431768211456 from rfl]; omega
 ·rw [show 18446744073709551616 ^ 3 = 6277101735386680763835789423207666416102355444464034512896 from rfl]; omega
theorem u4_eq {a b c d a' b' c' d' : Nat} : uq4 a b c d = uq4 a' b' c' d' ↔ a = a' ∧ b = b' ∧ c = c' ∧ d = d' := by
 simp only [uq4, List.cons.injEq, Value.int.injEq, and_true, true_and, Int.natCast_inj]
set_option maxRecDepth 10000 in
set_option maxHeartbeats 1000000 in
theorem UOf (n : Nat) (h : n < 18446744073709551616) (w : World) : Calls Tryd.prog 81 #[.int .u64 (n : Int)] w fun e w' => e = .returned (.agg (uc n).toArray) ∧ Below w.heap.size w w' := by
 rw [uc_small h]
 go_enter Tryd.func81, Tryd.ntmps81
 go_wp2_with ((with_reducible refine wpList_storeF 139 ((Below.refl w.heap.size w).alloc (Nat.le_refl _) _) (heap_alloc_new _ _) (Nat.le_refl _) (uq4 n 0 0 0) ?_ ?_ 4 ?_ ?_ ?_ ?_ ?_); rfl; rfl; rfl; kernel_rfl; rfl; rfl; intro w6 a6 b6 k6 z6)
 refine bodyPost_ret (results_cell_row rfl _ _ w.heap.size _ _ (0, 0) _ (by rfl) a6 Tryd.underlying139 rfl (by kernel_rfl)) rfl ⟨rfl, b6⟩
end Go.Proofs.YtobjgebojhjhnaaDoor
namespace Go.Proofs.YtobjgebojhjhnaaDoor
open Go.RowKit
def cmpN (a b : Nat) : Int := if a < b then -1 else if b < a then 1 else 0
def cmp4 (a0 a1 a2 a3 b0 b1 b2 b3 : Nat) : Int := if a3 = b3 then if a2 = b2 then if a1 = b1 then cmpN a0 b0 else cmpN a1 b1 else cmpN a2 b2 else cmpN a3 b3
theorem cmpN_self (a : Nat) : cmpN a a = 0 := by simp [cmpN]
theorem cmpN_lt {a b : Nat} (h : a < b) : cmpN a b = -1 := if_pos h
theorem cmpN_gt {a b : Nat} (h : b < a) : cmpN a b = 1 := by rw [cmpN, if_neg (by omega), if_pos h]
theorem cmp4_of {n m : Nat} (hn : n < 115792089237316195423570985008687907853269984665640564039457584007913129639936) (hm : m < 115792089237316195423570985008687907853269984665640564039457584007913129639936) : cmp4 (lim n 0) (lim n 1) (lim n 2) (lim n 3) (lim m 0) (lim m 1) (lim m 2) (lim m 3) = cmpN n m := by
 have en := lim_sum hn
 have em := lim_sum hm
 have p0 := lim_lt n 0
 have p1 := lim_lt n 1
 have p2 := lim_lt n 2
 have q0 := lim_lt m 0
 have q1 := lim_lt m 1
 have q2 := lim_lt m 2
 generalize lim n 0 = a0 at *
 generalize lim n 1 = a1 at *
 generalize lim n 2 = a2 at *
 generalize lim n 3 = a3 at *
 generalize lim m 0 = b0 at *
 generalize lim m 1 = b1 at *
 generalize lim m 2 = b2 at *
 generalize lim m 3 = b3 at *
 unfold cmp4
 by_cases h3 : a3 = b3
 ·by_cases h2 : a2 = b2
  ·by_cases h1 : a1 = b1
   ·rw [if_pos h3, if_pos h2, if_pos h1]
    unfold cmpN
    split
    ·rw [if_pos (by omega)]
    ·split
     ·rw [if_neg (by omega), if_pos (by omega)]
     ·rw [if_neg (by omega), if_neg (by omega)]
   ·rw [if_pos h3, if_pos h2, if_neg h1]
    rcases Nat.lt_or_gt_of_ne h1 with h | h
    ·rw [cmpN_lt h, cmpN_lt (by omega)]
    ·rw [cmpN_gt h, cmpN_gt (by omega)]
  ·rw [if_pos h3, if_neg h2]
   rcases Nat.lt_or_gt_of_ne h2 with h | h
   ·rw [cmpN_lt h, cmpN_lt (by omega)]
   ·rw [cmpN_gt h, cmpN_gt (by omega)]
 ·rw [if_neg h3]
  rcases Nat.lt_or_gt_of_ne h3 with h | h
  ·rw [cmpN_lt h, cmpN_lt (by omega)]
  ·rw [cmpN_gt h, cmpN_gt (by omega)]
set_option maxRecDepth 10000 in
set_option maxHeartbeats 4000000 in
theorem UCmp4 (a0 a1 a2 a3 b0 b1 b2 b3 : Nat) (w : World) :
  Calls Tryd.prog 96 #[.agg (uq4 a0 a1 a2 a3).toArray, .agg (uq4 b0 b1 b2 b3).toArray] w fun e w' => e = .returned (.int .i64 (cmp4 a0 a1 a2 a3 b0 b1 b2 b3)) ∧ Below w.heap.size w w' := by
 obtain ⟨W, hW⟩ : ∃ W, W = (w.alloc (.cells (uq4 a0 a1 a2 a3).toArray 139)).alloc (.cells (uq4 b0 b1 b2 b3).toArray 139) := ⟨_, rfl⟩
 obtain ⟨H, hH⟩ : ∃ H, H = w.heap.size := ⟨_, rfl⟩
 have bW : Below w.heap.size w W := by rw [hW]; exact ((Below.refl _ _).alloc (Nat.le_refl _) _).alloc (by simp) _
 have aW : Av W H 139 (uq4 a0 a1 a2 a3) := by rw [hW, hH]; exact heap_alloc2_old _ _ _
 have cW : Av W (H + 1) 139 (uq4 b0 b1 b2 b3) := by rw [hW, hH]; exact heap_alloc2_new _ _ _
 obtain ⟨R, hR⟩ : ∃ R, R = cmp4 a0 a1 a2 a3 b0 b1 b2 b3 := ⟨_, rfl⟩
 rw [← hR]
 replace hR := Lib.hid hR
 replace hW := Lib.hid hW
 replace hH := Lib.hid hH
 go_enter Tryd.func96, Tryd.ntmps96
 go_upto_region 1 with fail
 rw [← hW.out, ← hH.out]
 go_wp2
 go_loopw [5] (fun i wr => ∃ k : Nat, k ≤ 4 ∧ i = .int .i64 ((k : Int) - 1) ∧ Hid ((k < 4 → a3 = b3) ∧ (k < 3 → a2 = b2) ∧ (k < 2 → a1 = b1) ∧ (k < 1 → a0 = b0)) ∧ Below W.heap.size W wr) (fun i _ => (intOf i + 1).toNat)
 case atStart => exact ⟨4, by omega, rfl, Lib.hid (by omega), Below.refl _ _⟩
 case round =>
  obtain ⟨k, hk, rfl, he, bwr⟩ := hrel
  have hk5 : k = 0 ∨ k = 1 ∨ k = 2 ∨ k = 3 ∨ k = 4 := by omega
  rcases hk5 with rfl | rfl | rfl | rfl | rfl
  ·go_wp2
   go_ret
   obtain ⟨e3, e2, e1, e0⟩ := he.out
   have eR : R = 0 := by rw [hR.out, cmp4, if_pos (e3 (by omega)), if_pos (e2 (by omega)), if_pos (e1 (by omega)), e0 (by omega), cmpN_self]
   refine ⟨by rw [eR]; rfl, bW.trans (bwr.mono bW.size)⟩
  ·rcases Nat.lt_trichotomy a0 b0 with h | h | h
   ·have t1 : decide ((a0 : Int) < (b0 : Int)) = true := by simp; omega
    go_wp2_with fail
    refine wp_region_rel [] Ext (by kernel_rfl) (by kernel_rfl) (by kernel_rfl) Ext.refl Ext.trans (by intro p hp; cases hp) ?_
    refine ZM ?_
    refine ZP (c := .pointer (some ⟨H, 0, none⟩)) (fun w _ => by go_simp; first | done | rfl) ?_
    refine ZP (c := .int .u64 (a0 : Int)) (fun w hw => by have := ((aW.below bwr).below hw.drew).cell 0 _ rfl; go_simp; first | done | rfl) ?_
    refine ZM ?_
    refine ZP (c := .pointer (some ⟨H + 1, 0, none⟩)) (fun w _ => by go_simp; first | done | rfl) ?_
    refine ZP (c := .int .u64 (b0 : Int)) (fun w hw => by have := ((cW.below bwr).below hw.drew).cell 0 _ rfl; go_simp; first | done | rfl) ?_
    refine ZP (c := .bool true) (fun w _ => by go_simp; first | done | rfl | omega) ?_
    refine relEnd fun w2 hw2 => fill_end ?_
    go_wp2
    go_ret
    obtain ⟨e3, e2, e1, e0⟩ := he.out
    have eR : R = -1 := by rw [hR.out, cmp4, if_pos (e3 (by omega)), if_pos (e2 (by omega)), if_pos (e1 (by omega)), cmpN_lt h]
    refine ⟨by rw [eR]; rfl, bW.trans ((bwr.trans (hw2.drew.mono bwr.size)).mono bW.size)⟩
   ·have t1 : decide ((a0 : Int) < (b0 : Int)) = false := by simp; omega
    have t2 : decide ((b0 : Int) < (a0 : Int)) = false := by simp; omega
    go_wp2_with fail
    refine wp_region_rel [] Ext (by kernel_rfl) (by kernel_rfl) (by kernel_rfl) Ext.refl Ext.trans (by intro p hp; cases hp) ?_
    refine ZM ?_
    refine ZP (c := .pointer (some ⟨H, 0, none⟩)) (fun w _ => by go_simp; first | done | rfl) ?_
    refine ZP (c := .int .u64 (a0 : Int)) (fun w hw => by have := ((aW.below bwr).below hw.drew).cell 0 _ rfl; go_simp; first | done | rfl) ?_
    refine ZM ?_
    refine ZP (c := .pointer (some ⟨H + 1, 0, none⟩)) (fun w _ => by go_simp; first | done | rfl) ?_
    refine ZP (c := .int .u64 (b0 : Int)) (fun w hw => by have := ((cW.below bwr).below hw.drew).cell 0 _ rfl; go_simp; first | done | rfl) ?_
    refine ZP (c := .bool false) (fun w _ => by go_simp; first | done | rfl | omega) ?_
    refine relEnd fun w2 hw2 => fill_end ?_
    replace bwr := bwr.trans (hw2.drew.mono bwr.size)
    go_wp2_with fail
    refine wp_region_rel [] Ext (by kernel_rfl) (by kernel_rfl) (by kernel_rfl) Ext.refl Ext.trans (by intro p hp; cases hp) ?_
    refine ZM ?_
    refine ZP (c := .pointer (some ⟨H, 0, none⟩)) (fun w _ => by go_simp; first | done | rfl) ?_
    refine ZP (c := .int .u64 (a0 : Int)) (fun w hw => by have := ((aW.below bwr).below hw.drew).cell 0 _ rfl; go_simp; first | done | rfl) ?_
    refine ZM ?_
    refine ZP (c := .pointer (some ⟨H + 1, 0, none⟩)) (fun w _ => by go_simp; first | done | rfl) ?_
    refine ZP (c := .int .u64 (b0 : Int)) (fun w hw => by have := ((cW.below bwr).below hw.drew).cell 0 _ rfl; go_simp; first | done | rfl) ?_
    refine ZP (c := .bool false) (fun w _ => by go_simp; first | done | rfl | omega) ?_
    refine relEnd fun w3 hw3 => fill_end ?_
    have e := he.out
    go_wp2
    refine ⟨⟨0, by omega, by go_num, Lib.hid (by omega), bwr.trans (hw3.drew.mono bwr.size)⟩, ?_⟩
    simp [intOf]
   ·have t1 : decide ((a0 : Int) < (b0 : Int)) = false := by simp; omega
    have t2 : decide ((b0 : Int) < (a0 : Int)) = true := by simp; omega
    go_wp2_with fail
    refine wp_region_rel [] Ext (by kernel_rfl) (by kernel_rfl) (by kernel_rfl) Ext.refl Ext.trans (by intro p hp; cases hp) ?_
    refine ZM ?_
    refine ZP (c := .pointer (some ⟨H, 0, none⟩)) (fun w _ => by go_simp; first | done | rfl) ?_
    refine ZP (c := .int .u64 (a0 : Int)) (fun w hw => by have := ((aW.below bwr).below hw.drew).cell 0 _ rfl; go_simp; first | done | rfl) ?_
    refine ZM ?_
    refine ZP (c := .pointer (some ⟨H + 1, 0, none⟩)) (fun w _ => by go_simp; first | done | rfl) ?_
    refine ZP (c := .int .u64 (b0 : Int)) (fun w hw => by have := ((cW.below bwr).below hw.drew).cell 0 _ rfl; go_simp; first | done | rfl) ?_
    refine ZP (c := .bool false) (fun w _ => by go_simp; first | done | rfl | omega) ?_
    refine relEnd fun w2 hw2 => fill_end ?_
    replace bwr := bwr.trans (hw2.drew.mono bwr.size)
    go_wp2_with fail
    refine wp_region_rel [] Ext (by kernel_rfl) (by kernel_rfl) (by kernel_rfl) Ext.refl Ext.trans (by intro p hp; cases hp) ?_
    refine ZM ?_
    refine ZP (c := .pointer (some ⟨H, 0, none⟩)) (fun w _ => by go_simp; first | done | rfl) ?_
    refine ZP (c := .int .u64 (a0 : Int)) (fun w hw => by have := ((aW.below bwr).below hw.drew).cell 0 _ rfl; go_simp; first | done | rfl) ?_
    refine ZM ?_
    refine ZP (c := .pointer (some ⟨H + 1, 0, none⟩)) (fun w _ => by go_simp; first | done | rfl) ?_
    refine ZP (c := .int .u64 (b0 : Int)) (fun w hw => by have := ((cW.below bwr).below hw.drew).cell 0 _ rfl; go_simp; first | done | rfl) ?_
    refine ZP (c := .bool true) (fun w _ => by go_simp; first | done | rfl | omega) ?_
    refine relEnd fun w3 hw3 => fill_end ?_
    go_wp2
    go_ret
    obtain ⟨e3, e2, e1, e0⟩ := he.out
    have eR : R = 1 := by rw [hR.out, cmp4, if_pos (e3 (by omega)), if_pos (e2 (by omega)), if_pos (e1 (by omega)), cmpN_gt h]
    refine ⟨by rw [eR]; rfl, bW.trans ((bwr.trans (hw3.drew.mono bwr.size)).mono bW.size)⟩
  ·rcases Nat.lt_trichotomy a1 b1 with h | h | h
   ·have t1 : decide ((a1 : Int) < (b1 : Int)) = true := by simp; omega
    go_wp2_with fail
    refine wp_region_rel [] Ext (by kernel_rfl) (by kernel_rfl) (by kernel_rfl) Ext.refl Ext.trans (by intro p hp; cases hp) ?_
    refine ZM ?_
    refine ZP (c := .pointer (some ⟨H, 1, none⟩)) (fun w _ => by go_simp; first | done | rfl) ?_
    refine ZP (c := .int .u64 (a1 : Int)) (fun w hw => by have := ((aW.below bwr).below hw.drew).cell 1 _ rfl; go_simp; first | done | rfl) ?_
    refine ZM ?_
    refine ZP (c := .pointer (some ⟨H + 1, 1, none⟩)) (fun w _ => by go_simp; first | done | rfl) ?_
    refine ZP (c := .int .u64 (b1 : Int)) (fun w hw => by have := ((cW.below bwr).below hw.drew).cell 1 _ rfl; go_simp; first | done | rfl) ?_
    refine ZP (c := .bool true) (fun w _ => by go_simp; first | done | rfl | omega) ?_
    refine relEnd fun w2 hw2 => fill_end ?_
    go_wp2
    go_ret
    obtain ⟨e3, e2, e1, e0⟩ := he.out
    have eR : R = -1 := by rw [hR.out, cmp4, if_pos (e3 (by omega)), if_pos (e2 (by omega)), if_neg (by omega), cmpN_lt h]
    refine ⟨by rw [eR]; rfl, bW.trans ((bwr.trans (hw2.drew.mono bwr.size)).mono bW.size)⟩
   ·have t1 : decide ((a1 : Int) < (b1 : Int)) = false := by simp; omega
    have t2 : decide ((b1 : Int) < (a1 : Int)) = false := by simp; omega
    go_wp2_with fail
    refine wp_region_rel [] Ext (by kernel_rfl) (by kernel_rfl) (by kernel_rfl) Ext.refl Ext.trans (by intro p hp; cases hp) ?_
    refine ZM ?_
    refine ZP (c := .pointer (some ⟨H, 1, none⟩)) (fun w _ => by go_simp; first | done | rfl) ?_
    refine ZP (c := .int .u64 (a1 : Int)) (fun w hw => by have := ((aW.below bwr).below hw.drew).cell 1 _ rfl; go_simp; first | done | rfl) ?_
    refine ZM ?_
    refine ZP (c := .pointer (some ⟨H + 1, 1, none⟩)) (fun w _ => by go_simp; first | done | rfl) ?_
    refine ZP (c := .int .u64 (b1 : Int)) (fun w hw => by have := ((cW.below bwr).below hw.drew).cell 1 _ rfl; go_simp; first | done | rfl) ?_
    refine ZP (c := .bool false) (fun w _ => by go_simp; first | done | rfl | omega) ?_
    refine relEnd fun w2 hw2 => fill_end ?_
    replace bwr := bwr.trans (hw2.drew.mono bwr.size)
    go_wp2_with fail
    refine wp_region_rel [] Ext (by kernel_rfl) (by kernel_rfl) (by kernel_rfl) Ext.refl Ext.trans (by intro p hp; cases hp) ?_
    refine ZM ?_
    refine ZP (c := .pointer (some ⟨H, 1, none⟩)) (fun w _ => by go_simp; first | done | rfl) ?_
    refine ZP (c := .int .u64 (a1 : Int)) (fun w hw => by have := ((aW.below bwr).below hw.drew).cell 1 _ rfl; go_simp; first | done | rfl) ?_
    refine ZM ?_
    refine ZP (c := .pointer (some ⟨H + 1, 1, none⟩)) (fun w _ => by go_simp; first | done | rfl) ?_
    refine ZP (c := .int .u64 (b1 : Int)) (fun w hw => by have := ((cW.below bwr).below hw.drew).cell 1 _ rfl; go_simp; first | done | rfl) ?_
    refine ZP (c := .bool false) (fun w _ => by go_simp; first | done | rfl | omega) ?_
    refine relEnd fun w3 hw3 => fill_end ?_
    have e := he.out
    go_wp2
    refine ⟨⟨1, by omega, by go_num, Lib.hid (by omega), bwr.trans (hw3.drew.mono bwr.size)⟩, ?_⟩
    simp [intOf]
   ·have t1 : decide ((a1 : Int) < (b1 : Int)) = false := by simp; omega
    have t2 : decide ((b1 : Int) < (a1 : Int)) = true := by simp; omega
    go_wp2_with fail
    refine wp_region_rel [] Ext (by kernel_rfl) (by kernel_rfl) (by kernel_rfl) Ext.refl Ext.trans (by intro p hp; cases hp) ?_
    refine ZM ?_
    refine ZP (c := .pointer (some ⟨H, 1, none⟩)) (fun w _ => by go_simp; first | done | rfl) ?_
    refine ZP (c := .int .u64 (a1 : Int)) (fun w hw => by have := ((aW.below bwr).below hw.drew).cell 1 _ rfl; go_simp; first | done | rfl) ?_
    refine ZM ?_
    refine ZP (c := .pointer (some ⟨H + 1, 1, none⟩)) (fun w _ => by go_simp; first | done | rfl) ?_
    refine ZP (c := .int .u64 (b1 : Int)) (fun w hw => by have := ((cW.below bwr).below hw.drew).cell 1 _ rfl; go_simp; first | done | rfl) ?_
    refine ZP (c := .bool false) (fun w _ => by go_simp; first | done | rfl | omega) ?_
    refine relEnd fun w2 hw2 => fill_end ?_
    replace bwr := bwr.trans (hw2.drew.mono bwr.size)
    go_wp2_with fail
    refine wp_region_rel [] Ext (by kernel_rfl) (by kernel_rfl) (by kernel_rfl) Ext.refl Ext.trans (by intro p hp; cases hp) ?_
    refine ZM ?_
    refine ZP (c := .pointer (some ⟨H, 1, none⟩)) (fun w _ => by go_simp; first | done | rfl) ?_
    refine ZP (c := .int .u64 (a1 : Int)) (fun w hw => by have := ((aW.below bwr).below hw.drew).cell 1 _ rfl; go_simp; first | done | rfl) ?_
    refine ZM ?_
    refine ZP (c := .pointer (some ⟨H + 1, 1, none⟩)) (fun w _ => by go_simp; first | done | rfl) ?_
    refine ZP (c := .int .u64 (b1 : Int)) (fun w hw => by have := ((cW.below bwr).below hw.drew).cell 1 _ rfl; go_simp; first | done | rfl) ?_
    refine ZP (c := .bool true) (fun w _ => by go_simp; first | done | rfl | omega) ?_
    refine relEnd fun w3 hw3 => fill_end ?_
    go_wp2
    go_ret
    obtain ⟨e3, e2, e1, e0⟩ := he.out
    have eR : R = 1 := by rw [hR.out, cmp4, if_pos (e3 (by omega)), if_pos (e2 (by omega)), if_neg (by omega), cmpN_gt h]
    refine ⟨by rw [eR]; rfl, bW.trans ((bwr.trans (hw3.drew.mono bwr.size)).mono bW.size)⟩
  ·rcases Nat.lt_trichotomy a2 b2 with h | h | h
   ·have t1 : decide ((a2 : Int) < (b2 : Int)) = true := by simp; omega
    go_wp2_with fail
    refine wp_region_rel [] Ext (by kernel_rfl) (by kernel_rfl) (by kernel_rfl) Ext.refl Ext.trans (by intro p hp; cases hp) ?_
    refine ZM ?_
    refine ZP (c := .pointer (some ⟨H, 2, none⟩)) (fun w _ => by go_simp; first | done | rfl) ?_
    refine ZP (c := .int .u64 (a2 : Int)) (fun w hw => by have := ((aW.below bwr).below hw.drew).cell 2 _ rfl; go_simp; first | done | rfl) ?_
    refine ZM ?_
    refine ZP (c := .pointer (some ⟨H + 1, 2, none⟩)) (fun w _ => by go_simp; first | done | rfl) ?_
    refine ZP (c := .int .u64 (b2 : Int)) (fun w hw => by have := ((cW.below bwr).below hw.drew).cell 2 _ rfl; go_simp; first | done | rfl) ?_
    refine ZP (c := .bool true) (fun w _ => by go_simp; first | done | rfl | omega) ?_
    refine relEnd fun w2 hw2 => fill_end ?_
    go_wp2
    go_ret
    obtain ⟨e3, e2, e1, e0⟩ := he.out
    have eR : R = -1 := by rw [hR.out, cmp4, if_pos (e3 (by omega)), if_neg (by omega), cmpN_lt h]
    refine ⟨by rw [eR]; rfl, bW.trans ((bwr.trans (hw2.drew.mono bwr.size)).mono bW.size)⟩
   ·have t1 : decide ((a2 : Int) < (b2 : Int)) = false := by simp; omega
    have t2 : decide ((b2 : Int) < (a2 : Int)) = false := by simp; omega
    go_wp2_with fail
    refine wp_region_rel [] Ext (by kernel_rfl) (by kernel_rfl) (by kernel_rfl) Ext.refl Ext.trans (by intro p hp; cases hp) ?_
    refine ZM ?_
    refine ZP (c := .pointer (some ⟨H, 2, none⟩)) (fun w _ => by go_simp; first | done | rfl) ?_
    refine ZP (c := .int .u64 (a2 : Int)) (fun w hw => by have := ((aW.below bwr).below hw.drew).cell 2 _ rfl; go_simp; first | done | rfl) ?_
    refine ZM ?_
    refine ZP (c := .pointer (some ⟨H + 1, 2, none⟩)) (fun w _ => by go_simp; first | done | rfl) ?_
    refine ZP (c := .int .u64 (b2 : Int)) (fun w hw => by have := ((cW.below bwr).below hw.drew).cell 2 _ rfl; go_simp; first | done | rfl) ?_
    refine ZP (c := .bool false) (fun w _ => by go_simp; first | done | rfl | omega) ?_
    refine relEnd fun w2 hw2 => fill_end ?_
    replace bwr := bwr.trans (hw2.drew.mono bwr.size)
    go_wp2_with fail
    refine wp_region_rel [] Ext (by kernel_rfl) (by kernel_rfl) (by kernel_rfl) Ext.refl Ext.trans (by intro p hp; cases hp) ?_
    refine ZM ?_
    refine ZP (c := .pointer (some ⟨H, 2, none⟩)) (fun w _ => by go_simp; first | done | rfl) ?_
    refine ZP (c := .int .u64 (a2 : Int)) (fun w hw => by have := ((aW.below bwr).below hw.drew).cell 2 _ rfl; go_simp; first | done | rfl) ?_
    refine ZM ?_
    refine ZP (c := .pointer (some ⟨H + 1, 2, none⟩)) (fun w _ => by go_simp; first | done | rfl) ?_
    refine ZP (c := .int .u64 (b2 : Int)) (fun w hw => by have := ((cW.below bwr).below hw.drew).cell 2 _ rfl; go_simp; first | done | rfl) ?_
    refine ZP (c := .bool false) (fun w _ => by go_simp; first | done | rfl | omega) ?_
    refine relEnd fun w3 hw3 => fill_end ?_
    have e := he.out
    go_wp2
    refine ⟨⟨2, by omega, by go_num, Lib.hid (by omega), bwr.trans (hw3.drew.mono bwr.size)⟩, ?_⟩
    simp [intOf]
   ·have t1 : decide ((a2 : Int) < (b2 : Int)) = false := by simp; omega
    have t2 : decide ((b2 : Int) < (a2 : Int)) = true := by simp; omega
    go_wp2_with fail
    refine wp_region_rel [] Ext (by kernel_rfl) (by kernel_rfl) (by kernel_rfl) Ext.refl Ext.trans (by intro p hp; cases hp) ?_
    refine ZM ?_
    refine ZP (c := .pointer (some ⟨H, 2, none⟩)) (fun w _ => by go_simp; first | done | rfl) ?_
    refine ZP (c := .int .u64 (a2 : Int)) (fun w hw => by have := ((aW.below bwr).below hw.drew).cell 2 _ rfl; go_simp; first | done | rfl) ?_
    refine ZM ?_
    refine ZP (c := .pointer (some ⟨H + 1, 2, none⟩)) (fun w _ => by go_simp; first | done | rfl) ?_
    refine ZP (c := .int .u64 (b2 : Int)) (fun w hw => by have := ((cW.below bwr).below hw.drew).cell 2 _ rfl; go_simp; first | done | rfl) ?_
    refine ZP (c := .bool false) (fun w _ => by go_simp; first | done | rfl | omega) ?_
    refine relEnd fun w2 hw2 => fill_end ?_
    replace bwr := bwr.trans (hw2.drew.mono bwr.size)
    go_wp2_with fail
    refine wp_region_rel [] Ext (by kernel_rfl) (by kernel_rfl) (by kernel_rfl) Ext.refl Ext.trans (by intro p hp; cases hp) ?_
    refine ZM ?_
    refine ZP (c := .pointer (some ⟨H, 2, none⟩)) (fun w _ => by go_simp; first | done | rfl) ?_
    refine ZP (c := .int .u64 (a2 : Int)) (fun w hw => by have := ((aW.below bwr).below hw.drew).cell 2 _ rfl; go_simp; first | done | rfl) ?_
    refine ZM ?_
    refine ZP (c := .pointer (some ⟨H + 1, 2, none⟩)) (fun w _ => by go_simp; first | done | rfl) ?_
    refine ZP (c := .int .u64 (b2 : Int)) (fun w hw => by have := ((cW.below bwr).below hw.drew).cell 2 _ rfl; go_simp; first | done | rfl) ?_
    refine ZP (c := .bool true) (fun w _ => by go_simp; first | done | rfl | omega) ?_
    refine relEnd fun w3 hw3 => fill_end ?_
    go_wp2
    go_ret
    obtain ⟨e3, e2, e1, e0⟩ := he.out
    have eR : R = 1 := by rw [hR.out, cmp4, if_pos (e3 (by omega)), if_neg (by omega), cmpN_gt h]
    refine ⟨by rw [eR]; rfl, bW.trans ((bwr.trans (hw3.drew.mono bwr.size)).mono bW.size)⟩
  ·rcases Nat.lt_trichotomy a3 b3 with h | h | h
   ·have t1 : decide ((a3 : Int) < (b3 : Int)) = true := by simp; omega
    go_wp2_with fail
    refine wp_region_rel [] Ext (by kernel_rfl) (by kernel_rfl) (by kernel_rfl) Ext.refl Ext.trans (by intro p hp; cases hp) ?_
    refine ZM ?_
    refine ZP (c := .pointer (some ⟨H, 3, none⟩)) (fun w _ => by go_simp; first | done | rfl) ?_
    refine ZP (c := .int .u64 (a3 : Int)) (fun w hw => by have := ((aW.below bwr).below hw.drew).cell 3 _ rfl; go_simp; first | done | rfl) ?_
    refine ZM ?_
    refine ZP (c := .pointer (some ⟨H + 1, 3, none⟩)) (fun w _ => by go_simp; first | done | rfl) ?_
    refine ZP (c := .int .u64 (b3 : Int)) (fun w hw => by have := ((cW.below bwr).below hw.drew).cell 3 _ rfl; go_simp; first | done | rfl) ?_
    refine ZP (c := .bool true) (fun w _ => by go_simp; first | done | rfl | omega) ?_
    refine relEnd fun w2 hw2 => fill_end ?_
    go_wp2
    go_ret
    obtain ⟨e3, e2, e1, e0⟩ := he.out
    have eR : R = -1 := by rw [hR.out, cmp4, if_neg (by omega), cmpN_lt h]
    refine ⟨by rw [eR]; rfl, bW.trans ((bwr.trans (hw2.drew.mono bwr.size)).mono bW.size)⟩
   ·have t1 : decide ((a3 : Int) < (b3 : Int)) = false := by simp; omega
    have t2 : decide ((b3 : Int) < (a3 : Int)) = false := by simp; omega
    go_wp2_with fail
    refine wp_region_rel [] Ext (by kernel_rfl) (by kernel_rfl) (by kernel_rfl) Ext.refl Ext.trans (by intro p hp; cases hp) ?_
    refine ZM ?_
    refine ZP (c := .pointer (some ⟨H, 3, none⟩)) (fun w _ => by go_simp; first | done | rfl) ?_
    refine ZP (c := .int .u64 (a3 : Int)) (fun w hw => by have := ((aW.below bwr).below hw.drew).cell 3 _ rfl; go_simp; first | done | rfl) ?_
    refine ZM ?_
    refine ZP (c := .pointer (some ⟨H + 1, 3, none⟩)) (fun w _ => by go_simp; first | done | rfl) ?_
    refine ZP (c := .int .u64 (b3 : Int)) (fun w hw => by have := ((cW.below bwr).below hw.drew).cell 3 _ rfl; go_simp; first | done | rfl) ?_
    refine ZP (c := .bool false) (fun w _ => by go_simp; first | done | rfl | omega) ?_
    refine relEnd fun w2 hw2 => fill_end ?_
    replace bwr := bwr.trans (hw2.drew.mono bwr.size)
    go_wp2_with fail
    refine wp_region_rel [] Ext (by kernel_rfl) (by kernel_rfl) (by kernel_rfl) Ext.refl Ext.trans (by intro p hp; cases hp) ?_
    refine ZM ?_
    refine ZP (c := .pointer (some ⟨H, 3, none⟩)) (fun w _ => by go_simp; first | done | rfl) ?_
    refine ZP (c := .int .u64 (a3 : Int)) (fun w hw => by have := ((aW.below bwr).below hw.drew).cell 3 _ rfl; go_simp; first | done | rfl) ?_
    refine ZM ?_
    refine ZP (c := .pointer (some ⟨H + 1, 3, none⟩)) (fun w _ => by go_simp; first | done | rfl) ?_
    refine ZP (c := .int .u64 (b3 : Int)) (fun w hw => by have := ((cW.below bwr).below hw.drew).cell 3 _ rfl; go_simp; first | done | rfl) ?_
    refine ZP (c := .bool false) (fun w _ => by go_simp; first | done | rfl | omega) ?_
    refine relEnd fun w3 hw3 => fill_end ?_
    have e := he.out
    go_wp2
    refine ⟨⟨3, by omega, by go_num, Lib.hid (by omega), bwr.trans (hw3.drew.mono bwr.size)⟩, ?_⟩
    simp [intOf]
   ·have t1 : decide ((a3 : Int) < (b3 : Int)) = false := by simp; omega
    have t2 : decide ((b3 : Int) < (a3 : Int)) = true := by simp; omega
    go_wp2_with fail
    refine wp_region_rel [] Ext (by kernel_rfl) (by kernel_rfl) (by kernel_rfl) Ext.refl Ext.trans (by intro p hp; cases hp) ?_
    refine ZM ?_
    refine ZP (c := .pointer (some ⟨H, 3, none⟩)) (fun w _ => by go_simp; first | done | rfl) ?_
    refine ZP (c := .int .u64 (a3 : Int)) (fun w hw => by have := ((aW.below bwr).below hw.drew).cell 3 _ rfl; go_simp; first | done | rfl) ?_
    refine ZM ?_
    refine ZP (c := .pointer (some ⟨H + 1, 3, none⟩)) (fun w _ => by go_simp; first | done | rfl) ?_
    refine ZP (c := .int .u64 (b3 : Int)) (fun w hw => by have := ((cW.below bwr).below hw.drew).cell 3 _ rfl; go_simp; first | done | rfl) ?_
    refine ZP (c := .bool false) (fun w _ => by go_simp; first | done | rfl | omega) ?_
    refine relEnd fun w2 hw2 => fill_end ?_
    replace bwr := bwr.trans (hw2.drew.mono bwr.size)
    go_wp2_with fail
    refine wp_region_rel [] Ext (by kernel_rfl) (by kernel_rfl) (by kernel_rfl) Ext.refl Ext.trans (by intro p hp; cases hp) ?_
    refine ZM ?_
    refine ZP (c := .pointer (some ⟨H, 3, none⟩)) (fun w _ => by go_simp; first | done | rfl) ?_
    refine ZP (c := .int .u64 (a3 : Int)) (fun w hw => by have := ((aW.below bwr).below hw.drew).cell 3 _ rfl; go_simp; first | done | rfl) ?_
    refine ZM ?_
    refine ZP (c := .pointer (some ⟨H + 1, 3, none⟩)) (fun w _ => by go_simp; first | done | rfl) ?_
    refine ZP (c := .int .u64 (b3 : Int)) (fun w hw => by have := ((cW.below bwr).below hw.drew).cell 3 _ rfl; go_simp; first | done | rfl) ?_
    refine ZP (c := .bool true) (fun w _ => by go_simp; first | done | rfl | omega) ?_
    refine relEnd fun w3 hw3 => fill_end ?_
    go_wp2
    go_ret
    obtain ⟨e3, e2, e1, e0⟩ := he.out
    have eR : R = 1 := by rw [hR.out, cmp4, if_neg (by omega), cmpN_gt h]
    refine ⟨by rw [eR]; rfl, bW.trans ((bwr.trans (hw3.drew.mono bwr.size)).mono bW.size)⟩
theorem UCmp (n m : Nat) (hn : n < 115792089237316195423570985008687907853269984665640564039457584007913129639936) (hm : m < 115792089237316195423570985008687907853269984665640564039457584007913129639936) (w : World) :
  Calls Tryd.prog 96 #[.agg (uc n).toArray, .agg (uc m).toArray] w fun e w' => e = .returned (.int .i64 (cmpN n m)) ∧ Below w.heap.size w w' := by
 rw [← cmp4_of hn hm]
 exact UCmp4 _ _ _ _ _ _ _ _ w
end Go.Proofs.YtobjgebojhjhnaaDoor
namespace Go.Proofs.YtobjgebojhjhnaaDoor
open Go.RowKit
def txFew (t : TTx) : Bool := (t.ins.all fun i => decide (i.scr.length ≤ 300)) && (t.outs.all fun o => decide (o.scr.length ≤ 300)) && decide (t.ins.length ≤ 20) && decide (t.outs.length ≤ 20)
end Go.Proofs.YtobjgebojhjhnaaDoor
