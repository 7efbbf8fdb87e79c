import Derived.Test.YtobjgebojhjhnaaDoorQr3
import Derived.Test.YtobjgebojhjhnaaDoorCMath
import Derived.Test.YtobjgebojhjhnaaDoorBits
import Derived.Test.YtobjgebojhjhnaaDoorQr1
import Derived.Deep.Cut
import Derived.Test.YtobjgebojhjhnaaDoorQr5
import Derived.Test.YtobjgebojhjhnaaDoorQr4
namespace Go.Proofs.YtobjgebojhjhnaaDoor
open Go.RowKit
abbrev uq4 (a b c d : Nat) : List Value := [.int .u64 (a : Int), .int .u64 (b : Int), .int .u64 (c : Int), .int .u64 (d : Int)]
def lim (n i : Nat) : Nat := n / 18446744073709551616 ^ i % 18446744073709551616
def uc (n : Nat) : List Value := uq4 (lim n 0) (lim n 1) (lim n 2) (lim n 3)
theorem lim_lt (n i : Nat) : lim n i < 18446744073709551616 := Nat.mod_lt _ (by decide)
theorem lim_small {n : Nat} (h : n < 18446744073709551616) : lim n 0 = n ∧ lim n 1 = 0 ∧ lim n 2 = 0 ∧ lim n 3 = 0 := by
 unfold lim
 refine ⟨?_, ?_, ?_, ?_⟩
 ·rw [Nat.pow_zero, Nat.div_one, Nat.mod_eq_of_lt h]
 ·rw [Nat.pow_one, Nat.div_eq_of_lt h]
 ·rw [Nat.div_eq_of_lt (by omega)]
 ·rw [Nat.div_eq_of_lt (by omega)]
theorem uc_small {n : Nat} (h : n < 18446744073709551616) : uc n = uq4 n 0 0 0 := by
 obtain ⟨h0, h1, h2, h3⟩ := lim_small h
 rw [uc, h0, h1, h2, h3]
theorem lim_sum {n : Nat} (h : n < 115792089237316195423570985008687907853269984665640564039457584007913129639936) :
  n = lim n 0 + 18446744073709551616 * lim n 1 + 340282366920938463463374607431768211456 * lim n 2 + 6277101735386680763835789423207666416102355444464034512896 * lim n 3 := by
 unfold lim
 rw [Nat.pow_zero, Nat.div_one, Nat.pow_one, show 18446744073709551616 ^ 2 = 340282366920938463463374607431768211456 from rfl, show 18446744073709551616 ^ 3 = 6277101735386680763835789423207666416102355444464034512896 from rfl]
 omega
theorem lim_of (a b c d : Nat) (ha : a < 18446744073709551616) (hb : b < 18446744073709551616) (hc : c < 18446744073709551616) (hd : d < 18446744073709551616) :
  ∃ n, n < 115792089237316195423570985008687907853269984665640564039457584007913129639936 ∧ n = a + 18446744073709551616 * b + 340282366920938463463374607431768211456 * c + 6277101735386680763835789423207666416102355444464034512896 * d ∧ lim n 0 = a ∧ lim n 1 = b ∧ lim n 2 = c ∧ lim n 3 = d := by
 refine ⟨_, ?_, rfl, ?_, ?_, ?_, ?_⟩
 ·omega
 all_goals unfold lim
 ·rw [Nat.pow_zero, Nat.div_one]; omega
 ·rw [Nat.pow_one]; omega
 ·rw [show 18446744073709551616 ^ 2 = 340282366920938463463374607431768211456 from rfl]; omega
 ·rw [show 18446744073709551616 ^ 3 = 6277101735386680763835789423207666416102355444464034512896 from rfl]; omega
theorem u4_eq {a b c d a' b' c' d' : Nat} : uq4 a b c d = uq4 a' b' c' d' ↔ a = a' ∧ b = b' ∧ c = c' ∧ d = d' := by
 simp only [uq4, List.cons.injEq, Value.int.injEq, and_true, true_and, Int.natCast_inj]
set_option maxRecDepth 10000 in
set_option maxHeartbeats 1000000 in
theorem UOf (n : Nat) (h : n < 18446744073709551616) (w : World) : Calls Tryd.prog 81 #[.int .u64 (n : Int)] w fun e w' => e = .returned (.agg (uc n).toArray) ∧ Below w.heap.size w w' := by
 rw [uc_small h]
 go_enter Tryd.func81, Tryd.ntmps81
 go_wp2_with ((with_reducible refine wpList_storeF 139 ((Below.refl w.heap.size w).alloc (Nat.le_refl _) _) (heap_alloc_new _ _) (Nat.le_refl _) (uq4 n 0 0 0) ?_ ?_ 4 ?_ ?_ ?_ ?_ ?_); rfl; rfl; rfl; kernel_rfl; rfl; rfl; intro w6 a6 b6 k6 z6)
 refine bodyPost_ret (results_cell_row rfl _ _ w.heap.size _ _ (0, 0) _ (by rfl) a6 Tryd.underlying139 rfl (by kernel_rfl)) rfl ⟨rfl, b6⟩
end Go.Proofs.YtobjgebojhjhnaaDoor
namespace Go.Proofs.YtobjgebojhjhnaaDoor
open Go.RowKit
def cmpN (a b : Nat) : Int := if a < b then -1 else if b < a then 1 else 0
def cmp4 (a0 a1 a2 a3 b0 b1 b2 b3 : Nat) : Int := if a3 = b3 then if a2 = b2 then if a1 = b1 then cmpN a0 b0 else cmpN a1 b1 else cmpN a2 b2 else cmpN a3 b3
theorem cmpN_self (a : Nat) : cmpN a a = 0 := by simp [cmpN]
theorem cmpN_lt {a b : Nat} (h : a < b) : cmpN a b = -1 := if_pos h
theorem cmpN_gt {a b : Nat} (h : b < a) : cmpN a b = 1 := by rw [cmpN, if_neg (by omega), if_pos h]
theorem cmp4_of {n m : Nat} (hn : n < 115792089237316195423570985008687907853269984665640564039457584007913129639936) (hm : m < 115792089237316195423570985008687907853269984665640564039457584007913129639936) : cmp4 (lim n 0) (lim n 1) (lim n 2) (lim n 3) (lim m 0) (lim m 1) (lim m 2) (lim m 3) = cmpN n m := by
 have en := lim_sum hn
 have em := lim_sum hm
 have p0 := lim_lt n 0
 have p1 := lim_lt n 1
 have p2 := lim_lt n 2
 have q0 := lim_lt m 0
 have q1 := lim_lt m 1
 have q2 := lim_lt m 2
 generalize lim n 0 = a0 at *
 generalize lim n 1 = a1 at *
 generalize lim n 2 = a2 at *
 generalize lim n 3 = a3 at *
 generalize lim m 0 = b0 at *
 generalize lim m 1 = b1 at *
 generalize lim m 2 = b2 at *
 generalize lim m 3 = b3 at *
 unfold cmp4
 by_cases h3 : a3 = b3
 ·by_cases h2 : a2 = b2
  ·by_cases h1 : a1 = b1
   ·rw [if_pos h3, if_pos h2, if_pos h1]
    unfold cmpN
    split
    ·rw [if_pos (by omega)]
    ·split
     ·rw [if_neg (by omega), if_pos (by omega)]
     ·rw [if_neg (by omega), if_neg (by omega)]
   ·rw [if_pos h3, if_pos h2, if_neg h1]
    rcases Nat.lt_or_gt_of_ne h1 with h | h
    ·rw [cmpN_lt h, cmpN_lt (by omega)]
    ·rw [cmpN_gt h, cmpN_gt (by omega)]
  ·rw [if_pos h3, if_neg h2]
   rcases Nat.lt_or_gt_of_ne h2 with h | h
   ·rw [cmpN_lt h, cmpN_lt (by omega)]
   ·rw [cmpN_gt h, cmpN_gt (by omega)]
 ·rw [if_neg h3]
  rcases Nat.lt_or_gt_of_ne h3 with h | h
  ·rw [cmpN_lt h, cmpN_lt (by omega)]
  ·rw [cmpN_gt h, cmpN_gt (by omega)]
set_option maxRecDepth 10000 in
set_option maxHeartbeats 4000000 in
theorem UCmp4 (a0 a1 a2 a3 b0 b1 b2 b3 : Nat) (w : World) :
  Calls Tryd.prog 96 #[.agg (uq4 a0 a1 a2 a3).toArray, .agg (uq4 b0 b1 b2 b3).toArray] w fun e w' => e = .returned (.int .i64 (cmp4 a0 a1 a2 a3 b0 b1 b2 b3)) ∧ Below w.heap.size w w' := by
 obtain ⟨W, hW⟩ : ∃ W, W = (w.alloc (.cells (uq4 a0 a1 a2 a3).toArray 139)).alloc (.cells (uq4 b0 b1 b2 b3).toArray 139) := ⟨_, rfl⟩
 obtain ⟨H, hH⟩ : ∃ H, H = w.heap.size := ⟨_, rfl⟩
 have bW : Below w.heap.size w W := by rw [hW]; exact ((Below.refl _ _).alloc (Nat.le_refl _) _).alloc (by simp) _
 have aW : Av W H 139 (uq4 a0 a1 a2 a3) := by rw [hW, hH]; exact heap_alloc2_old _ _ _
 have cW : Av W (H + 1) 139 (uq4 b0 b1 b2 b3) := by rw [hW, hH]; exact heap_alloc2_new _ _ _
 obtain ⟨R, hR⟩ : ∃ R, R = cmp4 a0 a1 a2 a3 b0 b1 b2 b3 := ⟨_, rfl⟩
 rw [← hR]
 replace hR := Lib.hid hR
 replace hW := Lib.hid hW
 replace hH := Lib.hid hH
 go_enter Tryd.func96, Tryd.ntmps96
 go_upto_region 1 with fail
 rw [← hW.out, ← hH.out]
 go_wp2
 go_loopw [5] (fun i wr => ∃ k : Nat, k ≤ 4 ∧ i = .int .i64 ((k : Int) - 1) ∧ Hid ((k < 4 → a3 = b3) ∧ (k < 3 → a2 = b2) ∧ (k < 2 → a1 = b1) ∧ (k < 1 → a0 = b0)) ∧ Below W.heap.size W wr) (fun i _ => (intOf i + 1).toNat)
 case atStart => exact ⟨4, by omega, rfl, Lib.hid (by omega), Below.refl _ _⟩
 case round =>
  obtain ⟨k, hk, rfl, he, bwr⟩ := hrel
  have hk5 : k = 0 ∨ k = 1 ∨ k = 2 ∨ k = 3 ∨ k = 4 := by omega
  rcases hk5 with rfl | rfl | rfl | rfl | rfl
  ·go_wp2
   go_ret
   obtain ⟨e3, e2, e1, e0⟩ := he.out
   have eR : R = 0 := by rw [hR.out, cmp4, if_pos (e3 (by omega)), if_pos (e2 (by omega)), if_pos (e1 (by omega)), e0 (by omega), cmpN_self]
   refine ⟨by rw [eR]; rfl, bW.trans (bwr.mono bW.size)⟩
  ·rcases Nat.lt_trichotomy a0 b0 with h | h | h
   ·have t1 : decide ((a0 : Int) < (b0 : Int)) = true := by simp; omega
    go_wp2_with fail
    refine wp_region_rel [] Ext (by kernel_rfl) (by kernel_rfl) (by kernel_rfl) Ext.refl Ext.trans (by intro p hp; cases hp) ?_
    refine ZM ?_
    refine ZP (c := .pointer (some ⟨H, 0, none⟩)) (fun w _ => by go_simp; first | done | rfl) ?_
    refine ZP (c := .int .u64 (a0 : Int)) (fun w hw => by have := ((aW.below bwr).below hw.drew).cell 0 _ rfl; go_simp; first | done | rfl) ?_
    refine ZM ?_
    refine ZP (c := .pointer (some ⟨H + 1, 0, none⟩)) (fun w _ => by go_simp; first | done | rfl) ?_
    refine ZP (c := .int .u64 (b0 : Int)) (fun w hw => by have := ((cW.below bwr).below hw.drew).cell 0 _ rfl; go_simp; first | done | rfl) ?_
    refine ZP (c := .bool true) (fun w _ => by go_simp; first | done | rfl | omega) ?_
    refine relEnd fun w2 hw2 => fill_end ?_
    go_wp2
    go_ret
    obtain ⟨e3, e2, e1, e0⟩ := he.out
    have eR : R = -1 := by rw [hR.out, cmp4, if_pos (e3 (by omega)), if_pos (e2 (by omega)), if_pos (e1 (by omega)), cmpN_lt h]
    refine ⟨by rw [eR]; rfl, bW.trans ((bwr.trans (hw2.drew.mono bwr.size)).mono bW.size)⟩
   ·have t1 : decide ((a0 : Int) < (b0 : Int)) = false := by simp; omega
    have t2 : decide ((b0 : Int) < (a0 : Int)) = false := by simp; omega
    go_wp2_with fail
    refine wp_region_rel [] Ext (by kernel_rfl) (by kernel_rfl) (by kernel_rfl) Ext.refl Ext.trans (by intro p hp; cases hp) ?_
    refine ZM ?_
    refine ZP (c := .pointer (some ⟨H, 0, none⟩)) (fun w _ => by go_simp; first | done | rfl) ?_
    refine ZP (c := .int .u64 (a0 : Int)) (fun w hw => by have := ((aW.below bwr).below hw.drew).cell 0 _ rfl; go_simp; first | done | rfl) ?_
    refine ZM ?_
    refine ZP (c := .pointer (some ⟨H + 1, 0, none⟩)) (fun w _ => by go_simp; first | done | rfl) ?_
    refine ZP (c := .int .u64 (b0 : Int)) (fun w hw => by have := ((cW.below bwr).below hw.drew).cell 0 _ rfl; go_simp; first | done | rfl) ?_
    refine ZP (c := .bool false) (fun w _ => by go_simp; first | done | rfl | omega) ?_
    refine relEnd fun w2 hw2 => fill_end ?_
    replace bwr := bwr.trans (hw2.drew.mono bwr.size)
    go_wp2_with fail
    refine wp_region_rel [] Ext (by kernel_rfl) (by kernel_rfl) (by kernel_rfl) Ext.refl Ext.trans (by intro p hp; cases hp) ?_
    refine ZM ?_
    refine ZP (c := .pointer (some ⟨H, 0, none⟩)) (fun w _ => by go_simp; first | done | rfl) ?_
    refine ZP (c := .int .u64 (a0 : Int)) (fun w hw => by have := ((aW.below bwr).below hw.drew).cell 0 _ rfl; go_simp; first | done | rfl) ?_
    refine ZM ?_
    refine ZP (c := .pointer (some ⟨H + 1, 0, none⟩)) (fun w _ => by go_simp; first | done | rfl) ?_
    refine ZP (c := .int .u64 (b0 : Int)) (fun w hw => by have := ((cW.below bwr).below hw.drew).cell 0 _ rfl; go_simp; first | done | rfl) ?_
    refine ZP (c := .bool false) (fun w _ => by go_simp; first | done | rfl | omega) ?_
    refine relEnd fun w3 hw3 => fill_end ?_
    have e := he.out
    go_wp2
    refine ⟨⟨0, by omega, by go_num, Lib.hid (by omega), bwr.trans (hw3.drew.mono bwr.size)⟩, ?_⟩
    simp [intOf]
   ·have t1 : decide ((a0 : Int) < (b0 : Int)) = false := by simp; omega
    have t2 : decide ((b0 : Int) < (a0 : Int)) = true := by simp; omega
    go_wp2_with fail
    refine wp_region_rel [] Ext (by kernel_rfl) (by kernel_rfl) (by kernel_rfl) Ext.refl Ext.trans (by intro p hp; cases hp) ?_
    refine ZM ?_
    refine ZP (c := .pointer (some ⟨H, 0, none⟩)) (fun w _ => by go_simp; first | done | rfl) ?_
    refine ZP (c := .int .u64 (a0 : Int)) (fun w hw => by have := ((aW.below bwr).below hw.drew).cell 0 _ rfl; go_simp; first | done | rfl) ?_
    refine ZM ?_
    refine ZP (c := .pointer (some ⟨H + 1, 0, none⟩)) (fun w _ => by go_simp; first | done | rfl) ?_
    refine ZP (c := .int .u64 (b0 : Int)) (fun w hw => by have := ((cW.below bwr).below hw.drew).cell 0 _ rfl; go_simp; first | done | rfl) ?_
    refine ZP (c := .bool false) (fun w _ => by go_simp; first | done | rfl | omega) ?_
    refine relEnd fun w2 hw2 => fill_end ?_
    replace bwr := bwr.trans (hw2.drew.mono bwr.size)
    go_wp2_with fail
    refine wp_region_rel [] Ext (by kernel_rfl) (by kernel_rfl) (by kernel_rfl) Ext.refl Ext.trans (by intro p hp; cases hp) ?_
    refine ZM ?_
    refine ZP (c := .pointer (some ⟨H, 0, none⟩)) (fun w _ => by go_simp; first | done | rfl) ?_
    refine ZP (c := .int .u64 (a0 : Int)) (fun w hw => by have := ((aW.below bwr).below hw.drew).cell 0 _ rfl; go_simp; first | done | rfl) ?_
    refine ZM ?_
    refine ZP (c := .pointer (some ⟨H + 1, 0, none⟩)) (fun w _ => by go_simp; first | done | rfl) ?_
    refine ZP (c := .int .u64 (b0 : Int)) (fun w hw => by have := ((cW.below bwr).below hw.drew).cell 0 _ rfl; go_simp; first | done | rfl) ?_
    refine ZP (c := .bool true) (fun w _ => by go_simp; first | done | rfl | omega) ?_
    refine relEnd fun w3 hw3 => fill_end ?_
    go_wp2
    go_ret
    obtain ⟨e3, e2, e1, e0⟩ := he.out
    have eR : R = 1 := by rw [hR.out, cmp4, if_pos (e3 (by omega)), if_pos (e2 (by omega)), if_pos (e1 (by omega)), cmpN_gt h]
    refine ⟨by rw [eR]; rfl, bW.trans ((bwr.trans (hw3.drew.mono bwr.size)).mono bW.size)⟩
  ·rcases Nat.lt_trichotomy a1 b1 with h | h | h
   ·have t1 : decide ((a1 : Int) < (b1 : Int)) = true := by simp; omega
    go_wp2_with fail
    refine wp_region_rel [] Ext (by kernel_rfl) (by kernel_rfl) (by kernel_rfl) Ext.refl Ext.trans (by intro p hp; cases hp) ?_
    refine ZM ?_
    refine ZP (c := .pointer (some ⟨H, 1, none⟩)) (fun w _ => by go_simp; first | done | rfl) ?_
    refine ZP (c := .int .u64 (a1 : Int)) (fun w hw => by have := ((aW.below bwr).below hw.drew).cell 1 _ rfl; go_simp; first | done | rfl) ?_
    refine ZM ?_
    refine ZP (c := .pointer (some ⟨H + 1, 1, none⟩)) (fun w _ => by go_simp; first | done | rfl) ?_
    refine ZP (c := .int .u64 (b1 : Int)) (fun w hw => by have := ((cW.below bwr).below hw.drew).cell 1 _ rfl; go_simp; first | done | rfl) ?_
    refine ZP (c := .bool true) (fun w _ => by go_simp; first | done | rfl | omega) ?_
    refine relEnd fun w2 hw2 => fill_end ?_
    go_wp2
    go_ret
    obtain ⟨e3, e2, e1, e0⟩ := he.out
    have eR : R = -1 := by rw [hR.out, cmp4, if_pos (e3 (by omega)), if_pos (e2 (by omega)), if_neg (by omega), cmpN_lt h]
    refine ⟨by rw [eR]; rfl, bW.trans ((bwr.trans (hw2.drew.mono bwr.size)).mono bW.size)⟩
   ·have t1 : decide ((a1 : Int) < (b1 : Int)) = false := by simp; omega
    have t2 : decide ((b1 : Int) < (a1 : Int)) = false := by simp; omega
    go_wp2_with fail
    refine wp_region_rel [] Ext (by kernel_rfl) (by kernel_rfl) (by kernel_rfl) Ext.refl Ext.trans (by intro p hp; cases hp) ?_
    refine ZM ?_
    refine ZP (c := .pointer (some ⟨H, 1, none⟩)) (fun w _ => by go_simp; first | done | rfl) ?_
    refine ZP (c := .int .u64 (a1 : Int)) (fun w hw => by have := ((aW.below bwr).below hw.drew).cell 1 _ rfl; go_simp; first | done | rfl) ?_
    refine ZM ?_
    refine ZP (c := .pointer (some ⟨H + 1, 1, none⟩)) (fun w _ => by go_simp; first | done | rfl) ?_
    refine ZP (c := .int .u64 (b1 : Int)) (fun w hw => by have := ((cW.below bwr).below hw.drew).cell 1 _ rfl; go_simp; first | done | rfl) ?_
    refine ZP (c := .bool false) (fun w _ => by go_simp; first | done | rfl | omega) ?_
    refine relEnd fun w2 hw2 => fill_end ?_
    replace bwr := bwr.trans (hw2.drew.mono bwr.size)
    go_wp2_with fail
    refine wp_region_rel [] Ext (by kernel_rfl) (by kernel_rfl) (by kernel_rfl) Ext.refl Ext.trans (by intro p hp; cases hp) ?_
    refine ZM ?_
    refine ZP (c := .pointer (some ⟨H, 1, none⟩)) (fun w _ => by go_simp; first | done | rfl) ?_
    refine ZP (c := .int .u64 (a1 : Int)) (fun w hw => by have := ((aW.below bwr).below hw.drew).cell 1 _ rfl; go_simp; first | done | rfl) ?_
    refine ZM ?_
    refine ZP (c := .pointer (some ⟨H + 1, 1, none⟩)) (fun w _ => by go_simp; first | done | rfl) ?_
    refine ZP (c := .int .u64 (b1 : Int)) (fun w hw => by have := ((cW.below bwr).below hw.drew).cell 1 _ rfl; go_simp; first | done | rfl) ?_
    refine ZP (c := .bool false) (fun w _ => by go_simp; first | done | rfl | omega) ?_
    refine relEnd fun w3 hw3 => fill_end ?_
    have e := he.out
    go_wp2
    refine ⟨⟨1, by omega, by go_num, Lib.hid (by omega), bwr.trans (hw3.drew.mono bwr.size)⟩, ?_⟩
    simp [intOf]
   ·have t1 : decide ((a1 : Int) < (b1 : Int)) = false := by simp; omega
    have t2 : decide ((b1 : Int) < (a1 : Int)) = true := by simp; omega
    go_wp2_with fail
    refine wp_region_rel [] Ext (by kernel_rfl) (by kernel_rfl) (by kernel_rfl) Ext.refl Ext.trans (by intro p hp; cases hp) ?_
    refine ZM ?_
    refine ZP (c := .pointer (some ⟨H, 1, none⟩)) (fun w _ => by go_simp; first | done | rfl) ?_
    refine ZP (c := .int .u64 (a1 : Int)) (fun w hw => by have := ((aW.below bwr).below hw.drew).cell 1 _ rfl; go_simp; first | done | rfl) ?_
    refine ZM ?_
    refine ZP (c := .pointer (some ⟨H + 1, 1, none⟩)) (fun w _ => by go_simp; first | done | rfl) ?_
    refine ZP (c := .int .u64 (b1 : Int)) (fun w hw => by have := ((cW.below bwr).below hw.drew).cell 1 _ rfl; go_simp; first | done | rfl) ?_
    refine ZP (c := .bool false) (fun w _ => by go_simp; first | done | rfl | omega) ?_
    refine relEnd fun w2 hw2 => fill_end ?_
    replace bwr := bwr.trans (hw2.drew.mono bwr.size)
    go_wp2_with fail
    refine wp_region_rel [] Ext (by kernel_rfl) (by kernel_rfl) (by kernel_rfl) Ext.refl Ext.trans (by intro p hp; cases hp) ?_
    refine ZM ?_
    refine ZP (c := .pointer (some ⟨H, 1, none⟩)) (fun w _ => by go_simp; first | done | rfl) ?_
    refine ZP (c := .int .u64 (a1 : Int)) (fun w hw => by have := ((aW.below bwr).below hw.drew).cell 1 _ rfl; go_simp; first | done | rfl) ?_
    refine ZM ?_
    refine ZP (c := .pointer (some ⟨H + 1, 1, none⟩)) (fun w _ => by go_simp; first | done | rfl) ?_
    refine ZP (c := .int .u64 (b1 : Int)) (fun w hw => by have := ((cW.below bwr).below hw.drew).cell 1 _ rfl; go_simp; first | done | rfl) ?_
    refine ZP (c := .bool true) (fun w _ => by go_simp; first | done | rfl | omega) ?_
    refine relEnd fun w3 hw3 => fill_end ?_
    go_wp2
    go_ret
    obtain ⟨e3, e2, e1, e0⟩ := he.out
    have eR : R = 1 := by rw [hR.out, cmp4, if_pos (e3 (by omega)), if_pos (e2 (by omega)), if_neg (by omega), cmpN_gt h]
    refine ⟨by rw [eR]; rfl, bW.trans ((bwr.trans (hw3.drew.mono bwr.size)).mono bW.size)⟩
  ·rcases Nat.lt_trichotomy a2 b2 with h | h | h
   ·have t1 : decide ((a2 : Int) < (b2 : Int)) = true := by simp; omega
    go_wp2_with fail
    refine wp_region_rel [] Ext (by kernel_rfl) (by kernel_rfl) (by kernel_rfl) Ext.refl Ext.trans (by intro p hp; cases hp) ?_
    refine ZM ?_
    refine ZP (c := .pointer (some ⟨H, 2, none⟩)) (fun w _ => by go_simp; first | done | rfl) ?_
    refine ZP (c := .int .u64 (a2 : Int)) (fun w hw => by have := ((aW.below bwr).below hw.drew).cell 2 _ rfl; go_simp; first | done | rfl) ?_
    refine ZM ?_
    refine ZP (c := .pointer (some ⟨H + 1, 2, none⟩)) (fun w _ => by go_simp; first | done | rfl) ?_
    refine ZP (c := .int .u64 (b2 : Int)) (fun w hw => by have := ((cW.below bwr).below hw.drew).cell 2 _ rfl; go_simp; first | done | rfl) ?_
    refine ZP (c := .bool true) (fun w _ => by go_simp; first | done | rfl | omega) ?_
    refine relEnd fun w2 hw2 => fill_end ?_
    go_wp2
    go_ret
    obtain ⟨e3, e2, e1, e0⟩ := he.out
    have eR : R = -1 := by rw [hR.out, cmp4, if_pos (e3 (by omega)), if_neg (by omega), cmpN_lt h]
    refine ⟨by rw [eR]; rfl, bW.trans ((bwr.trans (hw2.drew.mono bwr.size)).mono bW.size)⟩
   ·have t1 : decide ((a2 : Int) < (b2 : Int)) = false := by simp; omega
    have t2 : decide ((b2 : Int) < (a2 : Int)) = false := by simp; omega
    go_wp2_with fail
    refine wp_region_rel [] Ext (by kernel_rfl) (by kernel_rfl) (by kernel_rfl) Ext.refl Ext.trans (by intro p hp; cases hp) ?_
    refine ZM ?_
    refine ZP (c := .pointer (some ⟨H, 2, none⟩)) (fun w _ => by go_simp; first | done | rfl) ?_
    refine ZP (c := .int .u64 (a2 : Int)) (fun w hw => by have := ((aW.below bwr).below hw.drew).cell 2 _ rfl; go_simp; first | done | rfl) ?_
    refine ZM ?_
    refine ZP (c := .pointer (some ⟨H + 1, 2, none⟩)) (fun w _ => by go_simp; first | done | rfl) ?_
    refine ZP (c := .int .u64 (b2 : Int)) (fun w hw => by have := ((cW.below bwr).below hw.drew).cell 2 _ rfl; go_simp; first | done | rfl) ?_
    refine ZP (c := .bool false) (fun w _ => by go_simp; first | done | rfl | omega) ?_
    refine relEnd fun w2 hw2 => fill_end ?_
    replace bwr := bwr.trans (hw2.drew.mono bwr.size)
    go_wp2_with fail
    refine wp_region_rel [] Ext (by kernel_rfl) (by kernel_rfl) (by kernel_rfl) Ext.refl Ext.trans (by intro p hp; cases hp) ?_
    refine ZM ?_
    refine ZP (c := .pointer (some ⟨H, 2, none⟩)) (fun w _ => by go_simp; first | done | rfl) ?_
    refine ZP (c := .int .u64 (a2 : Int)) (fun w hw => by have := ((aW.below bwr).below hw.drew).cell 2 _ rfl; go_simp; first | done | rfl) ?_
    refine ZM ?_
    refine ZP (c := .pointer (some ⟨H + 1, 2, none⟩)) (fun w _ => by go_simp; first | done | rfl) ?_
    refine ZP (c := .int .u64 (b2 : Int)) (fun w hw => by have := ((cW.below bwr).below hw.drew).cell 2 _ rfl; go_simp; first | done | rfl) ?_
    refine ZP (c := .bool false) (fun w _ => by go_simp; first | done | rfl | omega) ?_
    refine relEnd fun w3 hw3 => fill_end ?_
    have e := he.out
    go_wp2
    refine ⟨⟨2, by omega, by go_num, Lib.hid (by omega), bwr.trans (hw3.drew.mono bwr.size)⟩, ?_⟩
    simp [intOf]
   ·have t1 : decide ((a2 : Int) < (b2 : Int)) = false := by simp; omega
    have t2 : decide ((b2 : Int) < (a2 : Int)) = true := by simp; omega
    go_wp2_with fail
    refine wp_region_rel [] Ext (by kernel_rfl) (by kernel_rfl) (by kernel_rfl) Ext.refl Ext.trans (by intro p hp; cases hp) ?_
    refine ZM ?_
    refine ZP (c := .pointer (some ⟨H, 2, none⟩)) (fun w _ => by go_simp; first | done | rfl) ?_
    refine ZP (c := .int .u64 (a2 : Int)) (fun w hw => by have := ((aW.below bwr).below hw.drew).cell 2 _ rfl; go_simp; first | done | rfl) ?_
    refine ZM ?_
    refine ZP (c := .pointer (some ⟨H + 1, 2, none⟩)) (fun w _ => by go_simp; first | done | rfl) ?_
    refine ZP (c := .int .u64 (b2 : Int)) (fun w hw => by have := ((cW.below bwr).below hw.drew).cell 2 _ rfl; go_simp; first | done | rfl) ?_
    refine ZP (c := .bool false) (fun w _ => by go_simp; first | done | rfl | omega) ?_
    refine relEnd fun w2 hw2 => fill_end ?_
    replace bwr := bwr.trans (hw2.drew.mono bwr.size)
    go_wp2_with fail
    refine wp_region_rel [] Ext (by kernel_rfl) (by kernel_rfl) (by kernel_rfl) Ext.refl Ext.trans (by intro p hp; cases hp) ?_
    refine ZM ?_
    refine ZP (c := .pointer (some ⟨H, 2, none⟩)) (fun w _ => by go_simp; first | done | rfl) ?_
    refine ZP (c := .int .u64 (a2 : Int)) (fun w hw => by have := ((aW.below bwr).below hw.drew).cell 2 _ rfl; go_simp; first | done | rfl) ?_
    refine ZM ?_
    refine ZP (c := .pointer (some ⟨H + 1, 2, none⟩)) (fun w _ => by go_simp; first | done | rfl) ?_
    refine ZP (c := .int .u64 (b2 : Int)) (fun w hw => by have := ((cW.below bwr).below hw.drew).cell 2 _ rfl; go_simp; first | done | rfl) ?_
    refine ZP (c := .bool true) (fun w _ => by go_simp; first | done | rfl | omega) ?_
    refine relEnd fun w3 hw3 => fill_end ?_
    go_wp2
    go_ret
    obtain ⟨e3, e2, e1, e0⟩ := he.out
    have eR : R = 1 := by rw [hR.out, cmp4, if_pos (e3 (by omega)), if_neg (by omega), cmpN_gt h]
    refine ⟨by rw [eR]; rfl, bW.trans ((bwr.trans (hw3.drew.mono bwr.size)).mono bW.size)⟩
  ·rcases Nat.lt_trichotomy a3 b3 with h | h | h
   ·have t1 : decide ((a3 : Int) < (b3 : Int)) = true := by simp; omega
    go_wp2_with fail
    refine wp_region_rel [] Ext (by kernel_rfl) (by kernel_rfl) (by kernel_rfl) Ext.refl Ext.trans (by intro p hp; cases hp) ?_
    refine ZM ?_
    refine ZP (c := .pointer (some ⟨H, 3, none⟩)) (fun w _ => by go_simp; first | done | rfl) ?_
    refine ZP (c := .int .u64 (a3 : Int)) (fun w hw => by have := ((aW.below bwr).below hw.drew).cell 3 _ rfl; go_simp; first | done | rfl) ?_
    refine ZM ?_
    refine ZP (c := .pointer (some ⟨H + 1, 3, none⟩)) (fun w _ => by go_simp; first | done | rfl) ?_
    refine ZP (c := .int .u64 (b3 : Int)) (fun w hw => by have := ((cW.below bwr).below hw.drew).cell 3 _ rfl; go_simp; first | done | rfl) ?_
    refine ZP (c := .bool true) (fun w _ => by go_simp; first | done | rfl | omega) ?_
    refine relEnd fun w2 hw2 => fill_end ?_
    go_wp2
    go_ret
    obtain ⟨e3, e2, e1, e0⟩ := he.out
    have eR : R = -1 := by rw [hR.out, cmp4, if_neg (by omega), cmpN_lt h]
    refine ⟨by rw [eR]; rfl, bW.trans ((bwr.trans (hw2.drew.mono bwr.size)).mono bW.size)⟩
   ·have t1 : decide ((a3 : Int) < (b3 : Int)) = false := by simp; omega
    have t2 : decide ((b3 : Int) < (a3 : Int)) = false := by simp; omega
    go_wp2_with fail
    refine wp_region_rel [] Ext (by kernel_rfl) (by kernel_rfl) (by kernel_rfl) Ext.refl Ext.trans (by intro p hp; cases hp) ?_
    refine ZM ?_
    refine ZP (c := .pointer (some ⟨H, 3, none⟩)) (fun w _ => by go_simp; first | done | rfl) ?_
    refine ZP (c := .int .u64 (a3 : Int)) (fun w hw => by have := ((aW.below bwr).below hw.drew).cell 3 _ rfl; go_simp; first | done | rfl) ?_
    refine ZM ?_
    refine ZP (c := .pointer (some ⟨H + 1, 3, none⟩)) (fun w _ => by go_simp; first | done | rfl) ?_
    refine ZP (c := .int .u64 (b3 : Int)) (fun w hw => by have := ((cW.below bwr).below hw.drew).cell 3 _ rfl; go_simp; first | done | rfl) ?_
    refine ZP (c := .bool false) (fun w _ => by go_simp; first | done | rfl | omega) ?_
    refine relEnd fun w2 hw2 => fill_end ?_
    replace bwr := bwr.trans (hw2.drew.mono bwr.size)
    go_wp2_with fail
    refine wp_region_rel [] Ext (by kernel_rfl) (by kernel_rfl) (by kernel_rfl) Ext.refl Ext.trans (by intro p hp; cases hp) ?_
    refine ZM ?_
    refine ZP (c := .pointer (some ⟨H, 3, none⟩)) (fun w _ => by go_simp; first | done | rfl) ?_
    refine ZP (c := .int .u64 (a3 : Int)) (fun w hw => by have := ((aW.below bwr).below hw.drew).cell 3 _ rfl; go_simp; first | done | rfl) ?_
    refine ZM ?_
    refine ZP (c := .pointer (some ⟨H + 1, 3, none⟩)) (fun w _ => by go_simp; first | done | rfl) ?_
    refine ZP (c := .int .u64 (b3 : Int)) (fun w hw => by have := ((cW.below bwr).below hw.drew).cell 3 _ rfl; go_simp; first | done | rfl) ?_
    refine ZP (c := .bool false) (fun w _ => by go_simp; first | done | rfl | omega) ?_
    refine relEnd fun w3 hw3 => fill_end ?_
    have e := he.out
    go_wp2
    refine ⟨⟨3, by omega, by go_num, Lib.hid (by omega), bwr.trans (hw3.drew.mono bwr.size)⟩, ?_⟩
    simp [intOf]
   ·have t1 : decide ((a3 : Int) < (b3 : Int)) = false := by simp; omega
    have t2 : decide ((b3 : Int) < (a3 : Int)) = true := by simp; omega
    go_wp2_with fail
    refine wp_region_rel [] Ext (by kernel_rfl) (by kernel_rfl) (by kernel_rfl) Ext.refl Ext.trans (by intro p hp; cases hp) ?_
    refine ZM ?_
    refine ZP (c := .pointer (some ⟨H, 3, none⟩)) (fun w _ => by go_simp; first | done | rfl) ?_
    refine ZP (c := .int .u64 (a3 : Int)) (fun w hw => by have := ((aW.below bwr).below hw.drew).cell 3 _ rfl; go_simp; first | done | rfl) ?_
    refine ZM ?_
    refine ZP (c := .pointer (some ⟨H + 1, 3, none⟩)) (fun w _ => by go_simp; first | done | rfl) ?_
    refine ZP (c := .int .u64 (b3 : Int)) (fun w hw => by have := ((cW.below bwr).below hw.drew).cell 3 _ rfl; go_simp; first | done | rfl) ?_
    refine ZP (c := .bool false) (fun w _ => by go_simp; first | done | rfl | omega) ?_
    refine relEnd fun w2 hw2 => fill_end ?_
    replace bwr := bwr.trans (hw2.drew.mono bwr.size)
    go_wp2_with fail
    refine wp_region_rel [] Ext (by kernel_rfl) (by kernel_rfl) (by kernel_rfl) Ext.refl Ext.trans (by intro p hp; cases hp) ?_
    refine ZM ?_
    refine ZP (c := .pointer (some ⟨H, 3, none⟩)) (fun w _ => by go_simp; first | done | rfl) ?_
    refine ZP (c := .int .u64 (a3 : Int)) (fun w hw => by have := ((aW.below bwr).below hw.drew).cell 3 _ rfl; go_simp; first | done | rfl) ?_
    refine ZM ?_
    refine ZP (c := .pointer (some ⟨H + 1, 3, none⟩)) (fun w _ => by go_simp; first | done | rfl) ?_
    refine ZP (c := .int .u64 (b3 : Int)) (fun w hw => by have := ((cW.below bwr).below hw.drew).cell 3 _ rfl; go_simp; first | done | rfl) ?_
    refine ZP (c := .bool true) (fun w _ => by go_simp; first | done | rfl | omega) ?_
    refine relEnd fun w3 hw3 => fill_end ?_
    go_wp2
    go_ret
    obtain ⟨e3, e2, e1, e0⟩ := he.out
    have eR : R = 1 := by rw [hR.out, cmp4, if_neg (by omega), cmpN_gt h]
    refine ⟨by rw [eR]; rfl, bW.trans ((bwr.trans (hw3.drew.mono bwr.size)).mono bW.size)⟩
theorem UCmp (n m : Nat) (hn : n < 115792089237316195423570985008687907853269984665640564039457584007913129639936) (hm : m < 115792089237316195423570985008687907853269984665640564039457584007913129639936) (w : World) :
  Calls Tryd.prog 96 #[.agg (uc n).toArray, .agg (uc m).toArray] w fun e w' => e = .returned (.int .i64 (cmpN n m)) ∧ Below w.heap.size w w' := by
 rw [← cmp4_of hn hm]
 exact UCmp4 _ _ _ _ _ _ _ _ w
end Go.Proofs.YtobjgebojhjhnaaDoor
namespace Go.Proofs.YtobjgebojhjhnaaDoor
open Go.RowKit
theorem len32x {α : Type} {l : List α} (h : l.length = 32) : ∃ v0 v1 v2 v3 v4 v5 v6 v7 v8 v9 v10 v11 v12 v13 v14 v15 v16 v17 v18 v19 v20 v21 v22 v23 v24 v25 v26 v27 v28 v29 v30 v31, l = [v0, v1, v2, v3, v4, v5, v6, v7, v8, v9, v10, v11, v12, v13, v14, v15, v16, v17, v18, v19, v20, v21, v22, v23, v24, v25, v26, v27, v28, v29, v30, v31] := by
 match l, h with
 | [v0, v1, v2, v3, v4, v5, v6, v7, v8, v9, v10, v11, v12, v13, v14, v15, v16, v17, v18, v19, v20, v21, v22, v23, v24, v25, v26, v27, v28, v29, v30, v31], _ => exact ⟨v0, v1, v2, v3, v4, v5, v6, v7, v8, v9, v10, v11, v12, v13, v14, v15, v16, v17, v18, v19, v20, v21, v22, v23, v24, v25, v26, v27, v28, v29, v30, v31, rfl⟩
theorem built_in (T : TypeId) (hT : T = 101 ∨ T = 125) (p : List UInt8) (hp : p.length = 32) (i q : Int) (A : Option Addr) (n c : Nat) :
  Tryd.prog.built T [(0, .agg (p.map bv).toArray), (1, .int .u32 i), (2, .slice A n c), (3, .int .u32 q)] = some (p.map bv ++ ([.int .u32 i, .slice A n c, .int .u32 q] : List Value)).toArray := by
 obtain ⟨v0, v1, v2, v3, v4, v5, v6, v7, v8, v9, v10, v11, v12, v13, v14, v15, v16, v17, v18, v19, v20, v21, v22, v23, v24, v25, v26, v27, v28, v29, v30, v31, rfl⟩ := len32x hp
 rcases hT with rfl | rfl
 ·kernel_rfl
 ·kernel_rfl
theorem exec_build_in {o : Oper} {ρ : Operand → Value} (T : TypeId) (hT : T = 101 ∨ T = 125) (p : List UInt8) (hp : p.length = 32) (i q : Int) (A : Option Addr) (n c : Nat) (w : World) (a b d e : Operand)
  (ho : o.op = .build T #[(0, a), (1, b), (2, d), (3, e)]) (ha : ρ a = .agg (p.map bv).toArray) (hb : ρ b = .int .u32 i) (hd : ρ d = .slice A n c) (he : ρ e = .int .u32 q) :
  (execOp ρ o).run Tryd.prog w = .ok (.value (.agg (p.map bv ++ ([.int .u32 i, .slice A n c, .int .u32 q] : List Value)).toArray)) w := by
 have := run_build (P := Tryd.prog) w T #[(0, .agg (p.map bv).toArray), (1, .int .u32 i), (2, .slice A n c), (3, .int .u32 q)] _ (built_in T hT p hp i q A n c)
 unfold execOp
 simp only [ho, Sem.run_bind, List.map_toArray, List.map_cons, List.map_nil, ha, hb, hd, he, this, Result.andThen_ok]
 rfl
theorem wpList_build_in (T : TypeId) (hT : T = 101 ∨ T = 125) (p : List UInt8) (hp : p.length = 32) (i q : Int) (A : Option Addr) (n c : Nat) {ops : Array Oper} {rest : List Oper} {a : Act} {w : World} {Q : Exit → Act → World → Prop} {d tp pos af} {x0 x1 x2 x3 : Operand}
  (h0 : a.eval x0 = .agg (p.map bv).toArray) (h1 : a.eval x1 = .int .u32 i) (h2 : a.eval x2 = .slice A n c) (h3 : a.eval x3 = .int .u32 q)
  (k : wpList Tryd.prog ops Q rest (a.put d (.agg (p.map bv ++ ([.int .u32 i, .slice A n c, .int .u32 q] : List Value)).toArray)) w) : wpList Tryd.prog ops Q (⟨d, .build T #[(0, x0), (1, x1), (2, x2), (3, x3)], tp, pos, af, none⟩ :: rest) a w :=
 wpList_execW rfl (exec_build_in T hT p hp i q A n c w _ _ _ _ rfl h0 h1 h2 h3) k
def txFew (t : TTx) : Bool := (t.ins.all fun i => decide (i.scr.length ≤ 300)) && (t.outs.all fun o => decide (o.scr.length ≤ 300)) && decide (t.ins.length ≤ 20) && decide (t.outs.length ≤ 20)
theorem txFew_iff (t : TTx) : txFew t = true ↔ (∀ i ∈ t.ins, i.scr.length ≤ 300) ∧ (∀ o ∈ t.outs, o.scr.length ≤ 300) ∧ t.ins.length ≤ 20 ∧ t.outs.length ≤ 20 := by
 simp only [txFew, Bool.and_eq_true, decide_eq_true_eq, List.all_eq_true]
 constructor
 ·rintro ⟨⟨⟨a, b⟩, c⟩, d⟩; exact ⟨a, b, c, d⟩
 ·rintro ⟨a, b, c, d⟩; exact ⟨⟨⟨a, b⟩, c⟩, d⟩
set_option maxRecDepth 10000 in
set_option maxHeartbeats 2000000 in
theorem TFew (ver lock : Nat) (l : List (TIn × Sl)) (m : List (TOut × Sl)) (A1 A2 : Option Addr) (n1 n2 c1 c2 : Nat) (hn1 : l.length = n1) (hn2 : m.length = n2) (hm1 : n1 ≤ maxLen) (hm2 : n2 ≤ maxLen) (w : World) (h1 : RdIns w A1 l) (h2 : RdOuts w A2 m) :
  Calls Tryd.prog 18 #[.agg #[.int .u32 (ver : Int), .slice A1 n1 c1, .slice A2 n2 c2, .int .u32 (lock : Int)]] w fun e w' => e = .returned (.bool (txFew (txOf ver l m lock))) ∧ Below w.heap.size w w' := by
 obtain ⟨b, hb⟩ : ∃ b, b = txFew (txOf ver l m lock) := ⟨_, rfl⟩
 have hsane := txFew_iff (txOf ver l m lock)
 simp only [txOf, List.length_map, hn1, hn2, List.forall_mem_map] at hsane
 rw [← hb]
 rw [show TTx.mk ver (l.map (·.1)) (m.map (·.1)) lock = txOf ver l m lock from rfl, ← hb] at hsane
 clear hb
 unfold maxLen at hm1 hm2
 replace hn1 := Lib.hid hn1
 replace hn2 := Lib.hid hn2
 replace hsane := Lib.hid hsane
 obtain ⟨W, hW⟩ : ∃ W, W = w.alloc (.cells #[.int .u32 (ver : Int), .slice A1 n1 c1, .slice A2 n2 c2, .int .u32 (lock : Int)] 66) := ⟨_, rfl⟩
 have bW : Below w.heap.size w W := by rw [hW]; exact (Below.refl _ _).alloc (Nat.le_refl _) _
 have aW : Av W w.heap.size 66 [.int .u32 (ver : Int), .slice A1 n1 c1, .slice A2 n2 c2, .int .u32 (lock : Int)] := by rw [hW]; exact heap_alloc_new _ _
 go_enter Tryd.func18, Tryd.ntmps18
 go_upto_region 1 with fail
 rw [← hW]
 have hW' := Lib.hid hW
 clear hW
 have q1 := aW.cell 1 _ rfl
 have q2 := aW.cell 2 _ rfl
 go_wp2
 go_loop [3] (fun i => ∃ k : Nat, k ≤ n1 ∧ i = .int .i64 (k : Int) ∧ Hid (∀ e ∈ l.take k, e.1.scr.length ≤ 300)) (fun i => n1 - (intOf i).toNat)
 case atStart => exact ⟨0, by omega, rfl, Lib.hid (by simp)⟩
 case round =>
  obtain ⟨k, hk, rfl, hall⟩ := hrel
  by_cases hlt : k < n1
  ·have t4 : decide ((k : Int) < (n1 : Int)) = true := by simp; omega
   obtain ⟨e, he⟩ : ∃ e, l[k]? = some e := ⟨_, List.getElem?_eq_getElem (by rw [hn1.out]; exact hlt)⟩
   obtain ⟨b1, off, rfl⟩ := h1.adr (by rw [hn1.out]; omega)
   obtain ⟨hrng, hin⟩ := (h1.below bW).nth k e he
   obtain ⟨i32, i33, i34⟩ := inc_at hin
   obtain ⟨q, hq⟩ : ∃ q, e.1.scr.length = q := ⟨_, rfl⟩
   rw [hq] at i33
   have hc := hrng 33 _ i33
   have m0 : 0 ≤ (k : Int) := by omega
   have m1 : (k : Int) < (n1 : Int) := by omega
   clear i32 i33 i34 hin hrng
   replace he := Lib.hid he
   replace hq := Lib.hid hq
   by_cases hq1 : q ≤ 300
   ·have t5 : decide ((300 : Int) < (q : Int)) = false := by simp; omega
    go_wp2
    go_round
    case rel =>
     refine ⟨k + 1, by omega, by go_num, Lib.hid ?_⟩
     intro e' he'
     rcases mem_take_succ he.out he' with h | rfl
     ·exact hall.out e' h
     ·rw [hq.out]; exact hq1
    case measure => simp [intOf]; omega
   ·have t5 : decide ((300 : Int) < (q : Int)) = true := by simp; omega
    go_wp2
    go_ret
    refine ⟨?_, bW⟩
    have : b = false := by
     cases b
     ·rfl
     ·have := (hsane.out.1 rfl).1 e (List.mem_of_getElem? he.out)
      rw [hq.out] at this
      exact absurd this hq1
    rw [this]; rfl
  ·obtain rfl : n1 = k := by omega
   have t4 : decide ((n1 : Int) < (n1 : Int)) = false := by simp
   go_wp2
   go_loop [4] (fun i => ∃ j : Nat, j ≤ n2 ∧ i = .int .i64 (j : Int) ∧ Hid (∀ e ∈ m.take j, e.1.scr.length ≤ 300)) (fun i => n2 - (intOf i).toNat)
   case atStart => exact ⟨0, by omega, rfl, Lib.hid (by simp)⟩
   case round =>
    obtain ⟨j, hj, rfl, hall2⟩ := hrel
    by_cases hlt2 : j < n2
    ·have t5 : decide ((j : Int) < (n2 : Int)) = true := by simp; omega
     obtain ⟨e, he⟩ : ∃ e, m[j]? = some e := ⟨_, List.getElem?_eq_getElem (by rw [hn2.out]; exact hlt2)⟩
     obtain ⟨b1, off, rfl⟩ := h2.adr (by rw [hn2.out]; omega)
     obtain ⟨hrng, hin⟩ := (h2.below bW).nth j e he
     obtain ⟨q, hq⟩ : ∃ q, e.1.scr.length = q := ⟨_, rfl⟩
     have i33 : (outc e)[1]? = some (slv q e.2) := by rw [← hq]; rfl
     have hc := hrng 1 _ i33
     have m0 : 0 ≤ (j : Int) := by omega
     have m1 : (j : Int) < (n2 : Int) := by omega
     clear i33 hin hrng
     replace he := Lib.hid he
     replace hq := Lib.hid hq
     by_cases hq1 : q ≤ 300
     ·have t6 : decide ((300 : Int) < (q : Int)) = false := by simp; omega
      go_wp2
      go_round
      case rel =>
       refine ⟨j + 1, by omega, by go_num, Lib.hid ?_⟩
       intro e' he'
       rcases mem_take_succ he.out he' with h | rfl
       ·exact hall2.out e' h
       ·rw [hq.out]; exact hq1
      case measure => simp [intOf]; omega
     ·have t6 : decide ((300 : Int) < (q : Int)) = true := by simp; omega
      go_wp2
      go_ret
      refine ⟨?_, bW⟩
      have : b = false := by
       cases b
       ·rfl
       ·have := (hsane.out.1 rfl).2.1 e (List.mem_of_getElem? he.out)
        rw [hq.out] at this
        exact absurd this hq1
      rw [this]; rfl
    ·obtain rfl : n2 = j := by omega
     have t5 : decide ((n2 : Int) < (n2 : Int)) = false := by simp
     have hs1 : ∀ e ∈ l, e.1.scr.length ≤ 300 := fun e he => hall.out e (by rw [List.take_of_length_le (by rw [hn1.out]; omega)]; exact he)
     have hs2 : ∀ e ∈ m, e.1.scr.length ≤ 300 := fun e he => hall2.out e (by rw [List.take_of_length_le (by rw [hn2.out]; omega)]; exact he)
     have hbv : b = decide (n1 ≤ 20 ∧ n2 ≤ 20) := by
      cases b
      ·by_cases hc : n1 ≤ 20 ∧ n2 ≤ 20
       ·have := hsane.out.2 ⟨hs1, hs2, hc.1, hc.2⟩
        simp at this
       ·simp [hc]
      ·have := (hsane.out.1 rfl).2.2
       simp [this]
     clear hs1 hs2
     by_cases w1 : n1 ≤ 20
     ·have t6 : decide ((n1 : Int) ≤ 20) = true := by simp; omega
      by_cases w2 : n2 ≤ 20
      ·have t7 : decide ((n2 : Int) ≤ 20) = true := by simp; omega
       obtain rfl : b = true := by rw [hbv]; simp [w1, w2]
       clear hbv
       go_wp2
       go_ret
       exact ⟨rfl, bW⟩
      ·have t7 : decide ((n2 : Int) ≤ 20) = false := by simp; omega
       obtain rfl : b = false := by rw [hbv]; simp [w2]
       clear hbv
       go_wp2
       go_ret
       exact ⟨rfl, bW⟩
     ·have t6 : decide ((n1 : Int) ≤ 20) = false := by simp; omega
      obtain rfl : b = false := by rw [hbv]; simp [w1]
      clear hbv
      go_wp2
      go_ret
      exact ⟨rfl, bW⟩
theorem infoTOurs : (Tryd.prog.info? 101).map (fun i => (i.size, i.bytes)) = some (35, 72) := by kernel_rfl
theorem zeroTOurs : (Tryd.prog.info? 101).map (fun i => (i.zero.map (·.cells.size))) = some (some 35) := by kernel_rfl
theorem infoTOursO : (Tryd.prog.info? 104).map (fun i => (i.size, i.bytes)) = some (2, 32) := by kernel_rfl
theorem zeroTOursO : (Tryd.prog.info? 104).map (fun i => (i.zero.map (·.cells.size))) = some (some 2) := by kernel_rfl
set_option maxRecDepth 100000 in
set_option maxHeartbeats 4000000 in
theorem TOurs (ver lock : Nat) (hv : ver < 4294967296) (hlk : lock < 4294967296) (l : List (TIn × Sl)) (m : List (TOut × Sl)) (A1 A2 : Option Addr) (n1 n2 c1 c2 : Nat) (hn1 : l.length = n1) (hn2 : m.length = n2) (hm1 : n1 ≤ 1000) (hm2 : n2 ≤ 1000) (w : World) (h1 : RdIns w A1 l) (h2 : RdOuts w A2 m) :
    Calls Tryd.prog 21 #[.agg #[.int .u32 (ver : Int), .slice A1 n1 c1, .slice A2 n2 c2, .int .u32 (lock : Int)]] w fun e w' => ∃ (B1 B2 : Option Addr) (d1 d2 : Nat), e = .returned (.agg #[.int .u32 (ver : Int), .slice B1 n1 d1, .slice B2 n2 d2, .int .u32 (lock : Int)]) ∧ n1 ≤ d1 ∧ n2 ≤ d2 ∧ RdIns w' B1 l ∧ RdOuts w' B2 m ∧ Below w.heap.size w w' := by
  obtain ⟨W, hW⟩ : ∃ W, W = ((w.alloc (.cells #[.int .u32 (ver : Int), .slice A1 n1 c1, .slice A2 n2 c2, .int .u32 (lock : Int)] 66)).alloc (.cells #[.int .u32 0, .slice none 0 0, .slice none 0 0, .int .u32 0] 75)).alloc (.cells #[.int .u32 (ver : Int), .slice none 0 0, .slice none 0 0, .int .u32 (lock : Int)] 75) := ⟨_, rfl⟩
  obtain ⟨H, hH⟩ : ∃ H, H = w.heap.size := ⟨_, rfl⟩
  have e : ∀ (v : World) (o : Obj), (v.alloc o).heap.size = v.heap.size + 1 := fun v o => by simp
  have sW : W.heap.size = H + 3 := by rw [hW, e, e, e, hH]
  have bW : Below H w W := by rw [hW, hH]; exact (((Below.refl _ _).alloc (Nat.le_refl _) _).alloc (by simp) _).alloc (by simp; omega) _
  have aW : Av W H 66 [.int .u32 (ver : Int), .slice A1 n1 c1, .slice A2 n2 c2, .int .u32 (lock : Int)] := by rw [hW, hH]; exact Av.alloc (heap_alloc2_old _ _ _) _
  have rW : Av W (H + 1) 75 [.int .u32 0, .slice none 0 0, .slice none 0 0, .int .u32 0] := by rw [hW, hH]; exact Av.alloc (heap_alloc2_new _ _ _) _
  have tW : Av W (H + 2) 75 [.int .u32 (ver : Int), .slice none 0 0, .slice none 0 0, .int .u32 (lock : Int)] := by
    have := heap_alloc_new ((w.alloc (.cells #[.int .u32 (ver : Int), .slice A1 n1 c1, .slice A2 n2 c2, .int .u32 (lock : Int)] 66)).alloc (.cells #[.int .u32 0, .slice none 0 0, .slice none 0 0, .int .u32 0] 75)) (.cells #[.int .u32 (ver : Int), .slice none 0 0, .slice none 0 0, .int .u32 (lock : Int)] 75)
    rw [← hW, e, e, ← hH] at this
    exact this
  have v0 : 0 ≤ (ver : Int) := by omega
  have d0 : 0 < 35 := by decide
  have d1 : 35 ≤ 1000000 := by decide
  have v1 : 0 ≤ (lock : Int) := by omega
  replace hn1 := Lib.hid hn1
  replace hn2 := Lib.hid hn2
  replace sW := Lib.hid sW
  replace hW := Lib.hid hW
  replace hH := Lib.hid hH
  go_enter Tryd.func21, Tryd.ntmps21
  go_upto_region 2 with fail
  rw [← hW.out, ← hH.out]
  rw [show H + 1 + 1 = H + 2 from rfl]
  go_wp2
  go_loopw [4, 5] (fun i _ wr => ∃ (k : Nat) (v : Value), k ≤ n1 ∧ i = .int .i64 (k : Int) ∧ Av wr H 66 [.int .u32 (ver : Int), .slice A1 n1 c1, .slice A2 n2 c2, .int .u32 (lock : Int)] ∧ Av wr (H + 1) 75 [.int .u32 0, .slice none 0 0, .slice none 0 0, .int .u32 0] ∧ Av wr (H + 2) 75 [.int .u32 (ver : Int), v, .slice none 0 0, .int .u32 (lock : Int)] ∧ wr.ownsRow (H + 3) 101 35 v k (icl (l.take k)) ∧ Below H w wr) (fun i _ _ => n1 - (intOf i).toNat)
  case atStart => exact ⟨0, _, by omega, rfl, aW, rW, tW, World.ownsRow_nil _ _ _ _, bW⟩
  case round =>
    clear aW rW tW bW
    obtain ⟨k, v, hk, rfl, aw, rw', tw, ow, bw⟩ := hrel
    have bw0 : Below w.heap.size w wr := by rw [← hH.out]; exact bw
    obtain ⟨Bv, dv, rfl, hdv, _⟩ := own_form ow
    have q1 := aw.cell 1 _ rfl
    have q2 := tw.cell 1 _ rfl
    by_cases hlt : k < n1
    · have t4 : decide ((k : Int) < (n1 : Int)) = true := by simp; omega
      obtain ⟨x, hx⟩ : ∃ x, l[k]? = some x := ⟨_, List.getElem?_eq_getElem (by rw [hn1.out]; exact hlt)⟩
      obtain ⟨b1, off, rfl⟩ := h1.adr (by rw [hn1.out]; omega)
      obtain ⟨hrng, hin⟩ := (h1.below bw0).nth k x hx
      obtain ⟨i32, i33, i34⟩ := inc_at hin
      have hcl := inc_length hin
      have hone := all_of (inc_one x)
      have hp32 : x.1.prev.length = 32 := hin.1.1
      obtain ⟨sq, hsq⟩ : ∃ s : Value, s = slv x.1.scr.length x.2 := ⟨_, rfl⟩
      obtain ⟨ix, hix⟩ : ∃ ix : Int, ix = (x.1.idx : Int) := ⟨_, rfl⟩
      obtain ⟨qx, hqx⟩ : ∃ qx : Int, qx = (x.1.seq : Int) := ⟨_, rfl⟩
      obtain ⟨nn, hnn⟩ : ∃ nn, nn = x.1.scr.length := ⟨_, rfl⟩
      obtain ⟨cs, hcs⟩ : ∃ cs, cs = inc x := ⟨_, rfl⟩
      have hcs2 : cs = x.1.prev.map bv ++ [.int .u32 ix, .slice x.2.1 nn x.2.2, .int .u32 qx] := by rw [hcs, inc, hix, hqx, hnn]
      rw [← hcs] at hrng hcl hone i32 i33 i34
      rw [← hix] at i32
      rw [← hqx] at i34
      rw [← hnn] at i33
      have m0 : 0 ≤ (k : Int) := by omega
      have m1 : (k : Int) < (n1 : Int) := by omega
      clear hsq hin hix hqx hnn sq
      replace i32 := Lib.hid i32
      replace i33 := Lib.hid i33
      replace i34 := Lib.hid i34
      replace hx := Lib.hid hx
      replace hcs := Lib.hid hcs
      replace hcs2 := Lib.hid hcs2
      replace hp32 := Lib.hid hp32
      go_upto_region 6 with (first
        | ((with_reducible refine wpList_loadMF 125 (b := b1) (off := off + k * 35) cs hrng ?_ _ Tryd.underlying125 ?_ ?_ ?_); rfl; rfl; (rw [hcl]; kernel_rfl))
        | ((with_reducible refine wpList_storeF 125 ((Below.refl wr.heap.size wr).alloc (Nat.le_refl _) _) (heap_alloc_new _ _) (Nat.le_refl _) cs ?_ ?_ 35 hcl ?_ ?_ hone ?_); rfl; rfl; kernel_rfl; rfl
           intro w3 a3 b3 k3 z3; clear k3; replace z3 := Lib.hid z3))
      have tw3 := tw.below b3
      have ow3 := own_below ow b3
      have hHs : H ≤ wr.heap.size := by have := bw.size; have := hH.out; omega
      have bw3 := bw.trans (b3.mono hHs)
      have r2 := tw3.cell 1 _ rfl
      have f2 := frozen_of_row _ _ 1 _ _ tw3
      have y32 := a3.cell 32 _ i32.out
      have y33 := a3.cell 33 _ i33.out
      have y34 := a3.cell 34 _ i34.out
      have hr0 : w3.rangeAt wr.heap.size 0 (x.1.prev.map bv) := by
        rw [hcs2.out] at a3
        exact Av.rangeAt (pre := []) a3 0 rfl
      have aw3 := aw.below b3
      have rw3 := rw'.below b3
      have hbb : H + 3 ≤ w3.heap.size := by have := bw3.size; have := (World.ownsRow.lt ow3); have h3 := tw3.lt; omega
      replace a3 := Lib.hid a3
      replace hrng := trivial
      replace q1 := trivial
      replace q2 := trivial
      replace tw := Lib.hid tw
      replace tw3 := Lib.hid tw3
      replace ow := trivial
      replace hcl := Lib.hid hcl
      replace hone := Lib.hid hone
      have oa := ow3.alloc (.cells cs.toArray 101)
      have ba := (Below.refl w3.heap.size w3).alloc (Nat.le_refl _) (.cells cs.toArray 101)
      have ta := tw3.out.below ba
      replace ow3 := Lib.hid ow3
      replace oa := Lib.hid oa
      replace ta := Lib.hid ta
      go_wp2_with (first
        | ((with_reducible refine wpList_loadMF 30 (b := wr.heap.size) (off := 0) (x.1.prev.map bv) hr0 ?_ _ Tryd.underlying30 ?_ ?_ ?_); rfl; rfl; (rw [List.length_map, hp32.out]; kernel_rfl))
        | ((with_reducible refine wpList_build_in 101 (Or.inl rfl) x.1.prev hp32.out ix qx x.2.1 nn x.2.2 ?_ ?_ ?_ ?_ ?_); rfl; rfl; rfl; rfl)
        | ((with_reducible refine wpList_build1 Tryd.underlying72 infoTOurs zeroTOurs d0 d1 cs hcl.out ?_ ?_); (rw [hcs2.out]; rfl))
        | (at_builtin; refine wpList_appE Tryd.underlying72 infoTOurs zeroTOurs (by decide) oa.out (by simp; omega) cs 1 1 (Av.rd (t := 101) (heap_alloc_new _ _)) (by rw [hcl.out]) (List.all_eq_true.1 hone.out) (by omega) (by omega) rfl (.tmp 25) (.tmp 35) rfl rfl rfl ?_; intro v9 w9 o9 gr9 ob9; obtain ⟨B9, d9, rfl, _, _⟩ := own_form o9; have z1 := ta.out.same (gr9.block _ ta.out.lt (fun e => by have := (World.ownsRow.lt oa.out _ e.symm).1; omega)); have zc := z1.cell 1 _ rfl; have zf := frozen_of_row _ _ 1 _ _ z1))
      have f5 := Fr.setCell w9 ⟨H + 2, 1, none⟩ (.slice B9 (k + 1) d9)
      have grw := Fr.of_grown gr9
      have rowlt := fun z hz => World.ownsRow.lt oa.out z hz
      have o9lt := fun z hz => World.ownsRow.lt o9 z hz
      refine ⟨⟨k + 1, .slice B9 (k + 1) d9, by omega, by go_num, ?_, ?_, z1.set 1 _, ?_, ?_⟩, ?_⟩
      · exact f5.av (grw.av (aw3.below ba) (fun e => by have := (rowlt H e.symm).1; omega)) (by simp only; omega)
      · exact f5.av (grw.av (rw3.below ba) (fun e => by have := (rowlt (H + 1) e.symm).1; omega)) (by simp only; omega)
      · rw [List.take_add_one, hx.out, icl, List.flatMap_append]
        simp only [Option.toList_some, List.flatMap_cons, List.flatMap_nil, List.append_nil]
        rw [← hcs.out]
        exact own_fr o9 f5 fun z hz e => by have := (o9lt z hz).1; simp only at e; omega
      · exact ((bw3.trans (ba.mono (by have := b3.size; omega))).trans (grw.below (fun z hz => by have := (rowlt z hz.symm).1; omega) (by have := tw3.out.lt; simp; omega))).setCell (by simp only; omega) _
      · simp [intOf]; omega
    · obtain rfl : n1 = k := by omega
      have t4 : decide ((n1 : Int) < (n1 : Int)) = false := by simp
      have ol : wr.ownsRow (H + 3) 101 35 (.slice Bv n1 dv) n1 (icl l) := by
        rw [List.take_of_length_le (by rw [hn1.out]; omega)] at ow
        exact ow
      clear ow
      have ol' := Lib.hid ol
      have tw' := Lib.hid tw
      have aw' := Lib.hid aw
      have rw2 := Lib.hid rw'
      have bw' := Lib.hid bw
      clear ol tw aw rw' bw q2
      go_wp2
      clear q1 bw0
      go_loopw [6] (fun i wr => ∃ (j : Nat) (v : Value), j ≤ n2 ∧ i = .int .i64 (j : Int) ∧ Av wr H 66 [.int .u32 (ver : Int), .slice A1 n1 c1, .slice A2 n2 c2, .int .u32 (lock : Int)] ∧ Av wr (H + 1) 75 [.int .u32 0, .slice none 0 0, .slice none 0 0, .int .u32 0] ∧ Av wr (H + 2) 75 [.int .u32 (ver : Int), .slice Bv n1 dv, v, .int .u32 (lock : Int)] ∧ wr.ownsRow (H + 3) 101 35 (.slice Bv n1 dv) n1 (icl l) ∧ wr.ownsRow (H + 3) 104 2 v j (ocl (m.take j)) ∧ (∀ z, (Value.slice Bv n1 dv).ownBlock = some z → v.ownBlock ≠ some z) ∧ Below H w wr) (fun i _ => n2 - (intOf i).toNat)
      case atStart => exact ⟨0, _, by omega, rfl, aw'.out, rw2.out, tw'.out, ol'.out, World.ownsRow_nil _ _ _ _, fun z _ => by simp [Value.ownBlock], bw'.out⟩
      case round =>
        clear ol' tw' aw' rw2 bw'
        obtain ⟨j, v, hj, rfl, aw, rw', tw, ol, ow, hap, bw⟩ := hrel
        have bw0 : Below w.heap.size w wr := by rw [← hH.out]; exact bw
        obtain ⟨Ev, ev, rfl, hev, _⟩ := own_form ow
        have q1 := aw.cell 2 _ rfl
        by_cases hlt2 : j < n2
        · have t5 : decide ((j : Int) < (n2 : Int)) = true := by simp; omega
          obtain ⟨x, hx⟩ : ∃ x, m[j]? = some x := ⟨_, List.getElem?_eq_getElem (by rw [hn2.out]; exact hlt2)⟩
          obtain ⟨b1, off, rfl⟩ := h2.adr (by rw [hn2.out]; omega)
          obtain ⟨hrng, hin⟩ := (h2.below bw0).nth j x hx
          have hcl := outc_length x
          have hone := all_of (outc_one x)
          obtain ⟨vx, hvx⟩ : ∃ vx : Int, vx = (x.1.val : Int) := ⟨_, rfl⟩
          obtain ⟨nn, hnn⟩ : ∃ nn, nn = x.1.scr.length := ⟨_, rfl⟩
          obtain ⟨cs, hcs⟩ : ∃ cs, cs = outc x := ⟨_, rfl⟩
          have hcs2 : cs = [.int .u64 vx, .slice x.2.1 nn x.2.2] := by rw [hcs, outc, hvx, hnn]
          have i0 : cs[0]? = some (.int .u64 vx) := by rw [hcs2]; rfl
          have i1 : cs[1]? = some (.slice x.2.1 nn x.2.2) := by rw [hcs2]; rfl
          rw [← hcs] at hrng hcl hone
          have g0 := hrng 0 _ i0
          have g1 := hrng 1 _ i1
          have hl0 := World.block_lt_of_cell? wr _ g0
          have m0 : 0 ≤ (j : Int) := by omega
          have m1 : (j : Int) < (n2 : Int) := by omega
          have G0 := Lib.hid (fun w' (hE : Ext wr.drew w') => (hE.drew.cell (p := ⟨b1, off + j * 2, none⟩) hl0).trans g0)
          have G1 := Lib.hid (fun w' (hE : Ext wr.drew w') => (hE.drew.cell (p := ⟨b1, off + j * 2 + 1, none⟩) hl0).trans g1)
          clear hin hvx hnn i0 i1 g0 g1 hrng
          replace hx := Lib.hid hx
          replace hcs := Lib.hid hcs
          replace hcs2 := Lib.hid hcs2
          go_wp2_with fail
          refine wp_region_relT 16 [(15, OneW cs)] Ext (by kernel_rfl) (by kernel_rfl) (by kernel_rfl) (by kernel_rfl) (by kernel_rfl) Ext.refl Ext.trans (by intro p hp v w w' hR; simp only [List.mem_singleton] at hp; subst hp; exact OneW.mono hR) ?_
          refine ZP (fun w _ => by go_simp; first | done | rfl) ?_
          refine ZP (c := .slice Ev j ev) (fun w hw => by have := (tw.below hw.drew).cell 2 _ rfl; go_simp; first | done | rfl) ?_
          refine ZP (fun w _ => by go_simp; first | done | rfl) ?_
          refine ZP (c := .slice (some ⟨b1, off, none⟩) n2 c2) (fun w hw => by have := (aw.below hw.drew).cell 2 _ rfl; go_simp; first | done | rfl) ?_
          refine ZM ?_
          refine ZP (fun w _ => by go_simp; first | done | rfl) ?_
          refine ZP (fun w _ => by go_simp; first | done | rfl) ?_
          refine ZP (c := .int .u64 vx) (fun w hw => by have := G0.out w hw; go_simp; first | done | rfl) ?_
          refine ZP (fun w _ => by go_simp; first | done | rfl) ?_
          refine ZP (c := .slice (some ⟨b1, off, none⟩) n2 c2) (fun w hw => by have := (aw.below hw.drew).cell 2 _ rfl; go_simp; first | done | rfl) ?_
          refine ZM ?_
          refine ZP (fun w _ => by go_simp; first | done | rfl) ?_
          refine ZP (fun w _ => by go_simp; first | done | rfl) ?_
          refine ZP (c := .slice x.2.1 nn x.2.2) (fun w hw => by have := G1.out w hw; go_simp; first | done | rfl) ?_
          refine ZP (c := .agg #[.int .u64 vx, .slice x.2.1 nn x.2.2]) (fun w _ => by go_simp; first | done | rfl) ?_
          refine relWord _ rfl (fun w hw => fill_none rfl (relOp_yes rfl ?_)) ?_
          · rw [exec_build1 Tryd.underlying73 infoTOursO zeroTOursO (by decide) (by decide) w cs hcl _ rfl (by rw [eval_evL, hcs2.out]; rfl)]
            exact ⟨(Below.refl _ _).alloc (Nat.le_refl _) _, _, rfl, Av.rd (t := 104) (heap_alloc_new _ _)⟩
          refine relEnd fun w2 hw2 => fill_take rfl rfl fun v' hv' => fill_end ?_
          simp only [List.set_cons_succ, List.set_cons_zero, List.drop_succ_cons, List.drop_zero]
          obtain ⟨D, rfl, hrb⟩ := hv'
          have tw2 := tw.below hw2.drew
          have aw2 := aw.below hw2.drew
          have rw2 := rw'.below hw2.drew
          have ol2 := own_below ol hw2.drew
          have ow2 := own_below ow hw2.drew
          have hHs : H ≤ wr.heap.size := by have := bw.size; have := hH.out; omega
          have bw2 := bw.trans (hw2.drew.mono hHs)
          have hbb : H + 3 ≤ w2.heap.size := by have := tw2.lt; omega
          replace ow2 := Lib.hid ow2
          replace tw2 := Lib.hid tw2
          replace hone := Lib.hid hone
          replace hcl := Lib.hid hcl
          go_wp2_with (at_builtin; refine wpList_appE Tryd.underlying73 infoTOursO zeroTOursO (by decide) ow2.out hbb cs 1 1 hrb (by rw [hcl.out]) (List.all_eq_true.1 hone.out) (by omega) (by omega) rfl (.tmp 46) (.tmp 60) rfl rfl rfl ?_; intro v9 w9 o9 gr9 ob9; obtain ⟨B9, d9, rfl, _, _⟩ := own_form o9; have z1 := tw2.out.same (gr9.block _ tw2.out.lt (fun e => by have := (World.ownsRow.lt ow2.out _ e.symm).1; omega)); have zc := z1.cell 2 _ rfl; have zf := frozen_of_row _ _ 2 _ _ z1)
          have f5 := Fr.setCell w9 ⟨H + 2, 2, none⟩ (.slice B9 (j + 1) d9)
          have grw := Fr.of_grown gr9
          have rowlt := fun z hz => World.ownsRow.lt ow2.out z hz
          have row1lt := fun z hz => World.ownsRow.lt ol2 z hz
          have o9lt := fun z hz => World.ownsRow.lt o9 z hz
          refine ⟨⟨j + 1, .slice B9 (j + 1) d9, by omega, by go_num, ?_, ?_, z1.set 2 _, ?_, ?_, ?_, ?_⟩, ?_⟩
          · exact f5.av (grw.av aw2 (fun e => by have := (rowlt H e.symm).1; omega)) (by simp only; omega)
          · exact f5.av (grw.av rw2 (fun e => by have := (rowlt (H + 1) e.symm).1; omega)) (by simp only; omega)
          · exact own_fr (own_fr ol2 grw fun z hz e => hap z hz e.symm) f5 fun z hz e => by have := (row1lt z hz).1; simp only at e; omega
          · rw [List.take_add_one, hx.out, ocl, List.flatMap_append]
            simp only [Option.toList_some, List.flatMap_cons, List.flatMap_nil, List.append_nil]
            rw [← hcs.out]
            exact own_fr o9 f5 fun z hz e => by have := (o9lt z hz).1; simp only at e; omega
          · intro z hz e
            rcases ob9 with h | h
            · exact hap z hz (h.symm.trans e)
            · rw [h] at e; injection e with e
              have := (row1lt z hz).2
              omega
          · exact (bw2.trans (grw.below (fun z hz => by have := (rowlt z hz.symm).1; omega) (by omega))).setCell (by simp only; omega) _
          · simp [intOf]; omega
        · obtain rfl : n2 = j := by omega
          have t5 : decide ((n2 : Int) < (n2 : Int)) = false := by simp
          have ol2 : wr.ownsRow (H + 3) 104 2 (.slice Ev n2 ev) n2 (ocl m) := by
            rw [List.take_of_length_le (by rw [hn2.out]; omega)] at ow
            exact ow
          clear ow
          go_upto_region 11 with fail
          go_wp2_with (first
            | ((with_reducible refine wpList_loadF 75 tw ?_ _ 4 ?_ Tryd.underlying75 ?_ ?_ ?_); rfl; rfl; rfl; kernel_rfl)
            | ((with_reducible refine wpList_storeFA 75 bw rw' (Nat.le_add_right _ _) [.int .u32 (ver : Int), .slice Bv n1 dv, .slice Ev n2 ev, .int .u32 (lock : Int)] ?_ ?_ 4 ?_ ?_ ?_ ?_ ?_); rfl; rfl; rfl; kernel_rfl; rfl; rfl
               intro w4 a4 b4 k4 z4))
          refine bodyPost_ret (v := .agg #[.int .u32 (ver : Int), .slice Bv n1 dv, .slice Ev n2 ev, .int .u32 (lock : Int)]) (results_cell_row rfl _ _ (H + 1) _ _ (0, 0) _ (by rfl) a4 Tryd.underlying75 rfl (by kernel_rfl)) rfl ?_
          have f4 : Fr (fun z => z = H + 1) wr w4 := ⟨b4.os.trans bw.os.symm, b4.tape.trans bw.tape.symm, b4.output.trans bw.output.symm, by omega, fun z _ hz => k4 z hz⟩
          have k1 := own_fr ol f4 fun z hz e => by have := (World.ownsRow.lt ol z hz).1; omega
          have k2 := own_fr ol2 f4 fun z hz e => by have := (World.ownsRow.lt ol2 z hz).1; omega
          have b40 : Below w.heap.size w w4 := by rw [← hH.out]; exact b4
          exact ⟨Bv, Ev, dv, ev, rfl, hdv, hev, ⟨own_rd k1, fun x hx => (h1.2 x hx).below b40⟩, ⟨own_rd k2, fun x hx => (h2.2 x hx).below b40⟩, b40⟩
end Go.Proofs.YtobjgebojhjhnaaDoor
