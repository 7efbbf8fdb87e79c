import Derived.Test.YtobjgebojhjhnaaDoorQr10
import Derived.Test.YtobjgebojhjhnaaDoorLen
namespace Go.Proofs.YtobjgebojhjhnaaDoor
open Go.RowKit
theorem or_zl (x : Int) (h0 : 0 ≤ x) (h1 : x < 18446744073709551616) : bits .or .u64 0 x = x := by
 rw [bits_join_low .u64 64 (by decide) wraps_u64 0 0 x (by omega) (by simp) (by omega) h0 (by simp) (by omega)]
 omega
theorem or_zr (x : Int) (h0 : 0 ≤ x) (h1 : x < 18446744073709551616) : bits .or .u64 x 0 = x := by
 rw [bits_join_low .u64 64 (by decide) wraps_u64 64 x 0 h0 (by omega) (by omega) (by omega) (by simp) (by omega)]
 omega
def len4 (a0 a1 a2 a3 : Nat) : Nat := if a3 ≠ 0 then 192 + Lib.bitLen a3 else if a2 ≠ 0 then 128 + Lib.bitLen a2 else if a1 ≠ 0 then 64 + Lib.bitLen a1 else Lib.bitLen a0
theorem bitLen_64 {x : Nat} (h : x < 18446744073709551616) : Lib.bitLen x ≤ 64 := Lib.bitLen_le x 64 (Nat.le_refl _) h
set_option maxRecDepth 10000 in
set_option maxHeartbeats 4000000 in
theorem ULen4 (a0 a1 a2 a3 : Nat) (h0 : a0 < 18446744073709551616) (h1 : a1 < 18446744073709551616) (h2 : a2 < 18446744073709551616) (h3 : a3 < 18446744073709551616) (w : World) :
  Calls Tryd.prog 95 #[.agg (uq4 a0 a1 a2 a3).toArray] w fun e w' => e = .returned (.int .i64 (len4 a0 a1 a2 a3 : Int)) ∧ Below w.heap.size w w' := by
 obtain ⟨W, hW⟩ : ∃ W, W = w.alloc (.cells (uq4 a0 a1 a2 a3).toArray 139) := ⟨_, rfl⟩
 obtain ⟨H, hH⟩ : ∃ H, H = w.heap.size := ⟨_, rfl⟩
 have bW : Below w.heap.size w W := by rw [hW]; exact (Below.refl _ _).alloc (Nat.le_refl _) _
 have aW : Av W H 139 (uq4 a0 a1 a2 a3) := by rw [hW, hH]; exact heap_alloc_new _ _
 obtain ⟨R, hR⟩ : ∃ R : Nat, R = len4 a0 a1 a2 a3 := ⟨_, rfl⟩
 rw [← hR]
 have x0 := aW.cell 0 _ rfl
 have x1 := aW.cell 1 _ rfl
 have x2 := aW.cell 2 _ rfl
 have x3 := aW.cell 3 _ rfl
 replace hR := Lib.hid hR
 replace hW := Lib.hid hW
 replace hH := Lib.hid hH
 go_enter Tryd.func95, Tryd.ntmps95
 go_upto_region 1 with fail
 rw [← hW.out, ← hH.out]
 go_wp2
 go_loop [3] (fun i => ∃ k : Nat, k ≤ 4 ∧ i = .int .i64 ((k : Int) - 1) ∧ Hid ((k < 4 → a3 = 0) ∧ (k < 3 → a2 = 0) ∧ (k < 2 → a1 = 0) ∧ (k < 1 → a0 = 0))) (fun i => (intOf i + 1).toNat)
 case atStart => exact ⟨4, by omega, rfl, Lib.hid (by omega)⟩
 case round =>
  obtain ⟨k, hk, rfl, he⟩ := hrel
  have hk5 : k = 0 ∨ k = 1 ∨ k = 2 ∨ k = 3 ∨ k = 4 := by omega
  rcases hk5 with rfl | rfl | rfl | rfl | rfl
  ·go_wp2
   go_ret
   obtain ⟨e3, e2, e1, e0⟩ := he.out
   have eR : R = 0 := by rw [hR.out, e3 (by omega), e2 (by omega), e1 (by omega), e0 (by omega)]; rfl
   exact ⟨by rw [eR]; rfl, bW⟩
  ·by_cases hz : a0 = 0
   ·have t1 : ((a0 : Int) != 0) = false := by simp; omega
    have e := he.out
    go_wp2
    go_round
    case rel => exact ⟨0, by omega, by go_num, Lib.hid (by omega)⟩
    case measure => simp [intOf]
   ·have t1 : ((a0 : Int) != 0) = true := by simp; omega
    obtain ⟨e3, e2, e1, e0⟩ := he.out
    have eR : R = 0 + Lib.bitLen a0 := by rw [hR.out, len4, e3 (by omega), e2 (by omega), e1 (by omega)]; simp []
    have hb := bitLen_64 h0
    have HL := Len64 (a0 : Int) W (by omega) (by omega)
    rw [Int.toNat_natCast] at HL
    generalize Lib.bitLen a0 = L at *
    have e5 : IntKind.i64.wrap (0 + (L : Int)) = 0 + (L : Int) := by rw [IntKind.wrap_i64]; omega
    have e6 : IntKind.i64.wrap (L : Int) = (L : Int) := by rw [IntKind.wrap_i64]; omega
    replace HL := Lib.hid HL
    go_wp2_with (go_at_call 102; refine (HL.out).mono ?_; rintro e w1 ⟨rfl, rfl⟩)
    go_ret
    refine ⟨?_, bW⟩
    rw [eR]
    simp
  ·by_cases hz : a1 = 0
   ·have t1 : ((a1 : Int) != 0) = false := by simp; omega
    have e := he.out
    go_wp2
    go_round
    case rel => exact ⟨1, by omega, by go_num, Lib.hid (by omega)⟩
    case measure => simp [intOf]
   ·have t1 : ((a1 : Int) != 0) = true := by simp; omega
    obtain ⟨e3, e2, e1, e0⟩ := he.out
    have eR : R = 64 + Lib.bitLen a1 := by rw [hR.out, len4, e3 (by omega), e2 (by omega)]; simp [hz]
    have hb := bitLen_64 h1
    have HL := Len64 (a1 : Int) W (by omega) (by omega)
    rw [Int.toNat_natCast] at HL
    generalize Lib.bitLen a1 = L at *
    have e5 : IntKind.i64.wrap (64 + (L : Int)) = 64 + (L : Int) := by rw [IntKind.wrap_i64]; omega
    have e6 : IntKind.i64.wrap (L : Int) = (L : Int) := by rw [IntKind.wrap_i64]; omega
    replace HL := Lib.hid HL
    go_wp2_with (go_at_call 102; refine (HL.out).mono ?_; rintro e w1 ⟨rfl, rfl⟩)
    go_ret
    refine ⟨?_, bW⟩
    rw [eR]
    simp
  ·by_cases hz : a2 = 0
   ·have t1 : ((a2 : Int) != 0) = false := by simp; omega
    have e := he.out
    go_wp2
    go_round
    case rel => exact ⟨2, by omega, by go_num, Lib.hid (by omega)⟩
    case measure => simp [intOf]
   ·have t1 : ((a2 : Int) != 0) = true := by simp; omega
    obtain ⟨e3, e2, e1, e0⟩ := he.out
    have eR : R = 128 + Lib.bitLen a2 := by rw [hR.out, len4, e3 (by omega)]; simp [hz]
    have hb := bitLen_64 h2
    have HL := Len64 (a2 : Int) W (by omega) (by omega)
    rw [Int.toNat_natCast] at HL
    generalize Lib.bitLen a2 = L at *
    have e5 : IntKind.i64.wrap (128 + (L : Int)) = 128 + (L : Int) := by rw [IntKind.wrap_i64]; omega
    have e6 : IntKind.i64.wrap (L : Int) = (L : Int) := by rw [IntKind.wrap_i64]; omega
    replace HL := Lib.hid HL
    go_wp2_with (go_at_call 102; refine (HL.out).mono ?_; rintro e w1 ⟨rfl, rfl⟩)
    go_ret
    refine ⟨?_, bW⟩
    rw [eR]
    simp
  ·by_cases hz : a3 = 0
   ·have t1 : ((a3 : Int) != 0) = false := by simp; omega
    have e := he.out
    go_wp2
    go_round
    case rel => exact ⟨3, by omega, by go_num, Lib.hid (by omega)⟩
    case measure => simp [intOf]
   ·have t1 : ((a3 : Int) != 0) = true := by simp; omega
    obtain ⟨e3, e2, e1, e0⟩ := he.out
    have eR : R = 192 + Lib.bitLen a3 := by rw [hR.out, len4]; simp [hz]
    have hb := bitLen_64 h3
    have HL := Len64 (a3 : Int) W (by omega) (by omega)
    rw [Int.toNat_natCast] at HL
    generalize Lib.bitLen a3 = L at *
    have e5 : IntKind.i64.wrap (192 + (L : Int)) = 192 + (L : Int) := by rw [IntKind.wrap_i64]; omega
    have e6 : IntKind.i64.wrap (L : Int) = (L : Int) := by rw [IntKind.wrap_i64]; omega
    replace HL := Lib.hid HL
    go_wp2_with (go_at_call 102; refine (HL.out).mono ?_; rintro e w1 ⟨rfl, rfl⟩)
    go_ret
    refine ⟨?_, bW⟩
    rw [eR]
    simp
theorem wpList_storeI {P : Program} (ty : TypeId) {w : World} {g i : Nat} {t : TypeId} {l : List Value} (h : Av w g t l) (hi : i < l.length) (kk : IntKind) (z : Int) {ops : Array Oper} {rest : List Oper} {a : Act} {Q : Exit → Act → World → Prop} {d tp pos af} {x y : Operand}
  (hx : a.eval x = .pointer (some ⟨g, i, none⟩)) (hy : a.eval y = .int kk z) (hs : (P.info? ty).map (·.size) = some 1) (k : ∀ w', Av w' g t (l.set i (.int kk z)) → Fr (fun k => k = g) w w' → wpList P ops Q rest (a.put d undef) w') : wpList P ops Q (⟨d, .store ty x y, tp, pos, af, none⟩ :: rest) a w := by
 refine wpList_plain rfl fun _ hK => ?_
 have hc := h.cell i _ (List.getElem?_eq_getElem hi)
 have hf := frozen_of_row w g i _ t h
 obtain ⟨i0, hi0, hz0⟩ := Option.map_eq_some_iff.1 hs
 have hsz : ∀ w, (sizeOf ty).run P w = .ok 1 w := fun w => by simp [sizeOf, typeInfo, hi0, hz0]
 unfold Oper.wp execOp
 simp only [hx, hy]
 go_simp
 exact hK _ _ (k _ (h.set i _) (Fr.setCell w ⟨g, i, none⟩ _))
theorem size_u64 : (Tryd.prog.info? 102).map (·.size) = some 1 := by kernel_rfl
set_option maxRecDepth 10000 in
set_option maxHeartbeats 4000000 in
theorem UShr (m k : Nat) (hm : m < 18446744073709551616) (hk0 : 0 < k) (hk : k < 64) (w : World) :
  Calls Tryd.prog 93 #[.agg (uq4 m 0 0 0).toArray, .int .i64 (k : Int)] w fun e w' => e = .returned (.agg (uq4 (m / 2 ^ k) 0 0 0).toArray) ∧ Below w.heap.size w w' := by
 have t1 : decide ((k : Int) ≤ 0) = false := by simp; omega
 have t2 : decide ((256 : Int) ≤ (k : Int)) = false := by simp; omega
 have e1 : Int.tdiv (k : Int) 64 = 0 := by rw [Int.tdiv_eq_ediv_of_nonneg (by omega)]; omega
 have e2 : Int.tmod (k : Int) 64 = (k : Int) := by rw [Int.tmod_eq_emod_of_nonneg (by omega)]; omega
 have e3 : IntKind.i64.wrap (64 - (k : Int)) = 64 - (k : Int) := by rw [IntKind.wrap_i64]; omega
 have hv0 : 0 ≤ ((m : Int) / 2 ^ k) := Int.ediv_nonneg (by omega) (by exact Int.le_of_lt (Int.pow_pos (by omega)))
 have hv1 : ((m : Int) / 2 ^ k) < 18446744073709551616 := Int.lt_of_le_of_lt (Int.ediv_le_self _ (by omega)) (by omega)
 have hor : bits .or .u64 ((m : Int) / 2 ^ k) 0 = ((m : Int) / 2 ^ k) := or_zr _ hv0 hv1
 have hoz : bits .or .u64 0 0 = 0 := by decide
 have hk1 : ¬ k = 0 := by omega
 go_enter Tryd.func93, Tryd.ntmps93
 go_wp2
 go_loopw [8] (fun i wr => ∃ j : Nat, j ≤ 4 ∧ i = .int .i64 (j : Int) ∧ Below w.heap.size w wr ∧ Av wr w.heap.size 139 (uq4 m 0 0 0) ∧ Av wr (w.heap.size + 1) 139 [.int .u64 0, .int .u64 0, .int .u64 0, .int .u64 0] ∧ Av wr (w.heap.size + 1 + 1) 139 (if j = 0 then [.int .u64 0, .int .u64 0, .int .u64 0, .int .u64 0] else [.int .u64 ((m : Int) / 2 ^ k), .int .u64 0, .int .u64 0, .int .u64 0])) (fun i _ => 4 - (intOf i).toNat)
 case atStart =>
  refine ⟨0, by omega, rfl, (((Below.refl _ _).alloc (Nat.le_refl _) _).alloc (by simp) _).alloc (by simp; omega) _, Av.alloc (heap_alloc2_old _ _ _) _, Av.alloc (heap_alloc2_new _ _ _) _, ?_⟩
  have e : ∀ (v : World) (o : Obj), (v.alloc o).heap.size = v.heap.size + 1 := fun v o => by simp
  have := heap_alloc_new ((w.alloc (.cells (uq4 m 0 0 0).toArray 139)).alloc (.cells #[.int .u64 0, .int .u64 0, .int .u64 0, .int .u64 0] 139)) (.cells #[.int .u64 0, .int .u64 0, .int .u64 0, .int .u64 0] 139)
  rw [e, e] at this
  exact this
 case round =>
  obtain ⟨j, hj, rfl, bw, a0, a1, a2⟩ := hrel
  have hj5 : j = 0 ∨ j = 1 ∨ j = 2 ∨ j = 3 ∨ j = 4 := by omega
  rcases hj5 with rfl | rfl | rfl | rfl | rfl
  ·replace a2 : Av wr (w.heap.size + 1 + 1) 139 [.int .u64 0, .int .u64 0, .int .u64 0, .int .u64 0] := a2
   have y := a0.cell 0 _ rfl
   have hlen : 0 < ([.int .u64 0, .int .u64 0, .int .u64 0, .int .u64 0] : List Value).length := by simp
   go_upto_region 11 with ((with_reducible refine wpList_storeI 102 a2 hlen .u64 ((m : Int) / 2 ^ k) ?_ ?_ size_u64 ?_); rfl; rfl; intro w1 c2 f1)
   replace c2 : Av w1 (w.heap.size + 1 + 1) 139 [.int .u64 ((m : Int) / 2 ^ k), .int .u64 0, .int .u64 0, .int .u64 0] := c2
   have c0 := f1.av a0 (by omega)
   have c1 := f1.av a1 (by omega)
   have b1 := bw.trans (f1.below (B := w.heap.size) (fun k hk => by omega) bw.size)
   go_wp2_with fail
   refine wp_region_relT 14 [] Ext (by kernel_rfl) (by kernel_rfl) (by kernel_rfl) (by kernel_rfl) (by kernel_rfl) Ext.refl Ext.trans (by intro p hp; cases hp) ?_
   refine ZM ?_
   refine ZP (c := .pointer (some ⟨(w.heap.size + 1 + 1), 0, none⟩)) (fun w _ => by go_simp; first | done | rfl | omega) ?_
   refine ZP (c := .int .u64 ((m : Int) / 2 ^ k)) (fun w hw => by have := (c2.below hw.drew).cell 0 _ rfl; go_simp; first | done | rfl) ?_
   refine ZM ?_
   refine ZM ?_
   refine ZP (c := .int .i64 0) (fun w _ => by go_simp; first | done | rfl | omega) ?_
   refine ZP (c := .int .i64 1) (fun w _ => by go_simp; first | done | rfl | omega) ?_
   refine ZP (c := .pointer (some ⟨w.heap.size, 1, none⟩)) (fun w _ => by go_simp; first | done | rfl | omega) ?_
   refine ZP (c := .int .u64 0) (fun w hw => by have := (c0.below hw.drew).cell 1 _ rfl; go_simp; first | done | rfl) ?_
   refine ZM ?_
   refine ZP (c := .int .i64 (64 - (k : Int))) (fun w _ => by go_simp; first | done | rfl | omega) ?_
   refine ZP (c := .int .u64 0) (fun w _ => by go_simp; first | done | rfl | omega) ?_
   refine ZP (c := .int .u64 ((m : Int) / 2 ^ k)) (fun w _ => by go_simp; first | done | rfl | omega) ?_
   refine ZP (c := .pointer (some ⟨(w.heap.size + 1 + 1), 0, none⟩)) (fun w _ => by go_simp; first | done | rfl | omega) ?_
   refine relEnd fun w2 hw2 => fill_end ?_
   have d0 := c0.below hw2.drew
   have d1 := c1.below hw2.drew
   have d2 := c2.below hw2.drew
   have b2 := b1.trans (hw2.drew.mono b1.size)
   have hlen2 : 0 < ([.int .u64 ((m : Int) / 2 ^ k), .int .u64 0, .int .u64 0, .int .u64 0] : List Value).length := by simp
   simp only [List.drop_succ_cons, List.drop_zero]
   ((with_reducible refine wpList_storeI 102 d2 hlen2 .u64 ((m : Int) / 2 ^ k) ?_ ?_ size_u64 ?_); rfl; rfl; intro w3 g2 f3)
   have g0 := f3.av d0 (by omega)
   have g1 := f3.av d1 (by omega)
   have b3 := b2.trans (f3.below (B := w.heap.size) (fun k hk => by omega) b2.size)
   go_wp2
   exact ⟨⟨1, by omega, by go_num, b3, g0, g1, g2⟩, by simp [intOf]⟩
  ·replace a2 : Av wr (w.heap.size + 1 + 1) 139 [.int .u64 ((m : Int) / 2 ^ k), .int .u64 0, .int .u64 0, .int .u64 0] := a2
   have y := a0.cell 1 _ rfl
   have hlen : 1 < ([.int .u64 ((m : Int) / 2 ^ k), .int .u64 0, .int .u64 0, .int .u64 0] : List Value).length := by simp
   go_upto_region 11 with ((with_reducible refine wpList_storeI 102 a2 hlen .u64 0 ?_ ?_ size_u64 ?_); rfl; rfl; intro w1 c2 f1)
   replace c2 : Av w1 (w.heap.size + 1 + 1) 139 [.int .u64 ((m : Int) / 2 ^ k), .int .u64 0, .int .u64 0, .int .u64 0] := c2
   have c0 := f1.av a0 (by omega)
   have c1 := f1.av a1 (by omega)
   have b1 := bw.trans (f1.below (B := w.heap.size) (fun k hk => by omega) bw.size)
   go_wp2_with fail
   refine wp_region_relT 14 [] Ext (by kernel_rfl) (by kernel_rfl) (by kernel_rfl) (by kernel_rfl) (by kernel_rfl) Ext.refl Ext.trans (by intro p hp; cases hp) ?_
   refine ZM ?_
   refine ZP (c := .pointer (some ⟨(w.heap.size + 1 + 1), 1, none⟩)) (fun w _ => by go_simp; first | done | rfl | omega) ?_
   refine ZP (c := .int .u64 0) (fun w hw => by have := (c2.below hw.drew).cell 1 _ rfl; go_simp; first | done | rfl) ?_
   refine ZM ?_
   refine ZM ?_
   refine ZP (c := .int .i64 1) (fun w _ => by go_simp; first | done | rfl | omega) ?_
   refine ZP (c := .int .i64 2) (fun w _ => by go_simp; first | done | rfl | omega) ?_
   refine ZP (c := .pointer (some ⟨w.heap.size, 2, none⟩)) (fun w _ => by go_simp; first | done | rfl | omega) ?_
   refine ZP (c := .int .u64 0) (fun w hw => by have := (c0.below hw.drew).cell 2 _ rfl; go_simp; first | done | rfl) ?_
   refine ZM ?_
   refine ZP (c := .int .i64 (64 - (k : Int))) (fun w _ => by go_simp; first | done | rfl | omega) ?_
   refine ZP (c := .int .u64 0) (fun w _ => by go_simp; first | done | rfl | omega) ?_
   refine ZP (c := .int .u64 0) (fun w _ => by go_simp; first | done | rfl | omega) ?_
   refine ZP (c := .pointer (some ⟨(w.heap.size + 1 + 1), 1, none⟩)) (fun w _ => by go_simp; first | done | rfl | omega) ?_
   refine relEnd fun w2 hw2 => fill_end ?_
   have d0 := c0.below hw2.drew
   have d1 := c1.below hw2.drew
   have d2 := c2.below hw2.drew
   have b2 := b1.trans (hw2.drew.mono b1.size)
   have hlen2 : 1 < ([.int .u64 ((m : Int) / 2 ^ k), .int .u64 0, .int .u64 0, .int .u64 0] : List Value).length := by simp
   simp only [List.drop_succ_cons, List.drop_zero]
   ((with_reducible refine wpList_storeI 102 d2 hlen2 .u64 0 ?_ ?_ size_u64 ?_); rfl; rfl; intro w3 g2 f3)
   have g0 := f3.av d0 (by omega)
   have g1 := f3.av d1 (by omega)
   have b3 := b2.trans (f3.below (B := w.heap.size) (fun k hk => by omega) b2.size)
   go_wp2
   exact ⟨⟨2, by omega, by go_num, b3, g0, g1, g2⟩, by simp [intOf]⟩
  ·replace a2 : Av wr (w.heap.size + 1 + 1) 139 [.int .u64 ((m : Int) / 2 ^ k), .int .u64 0, .int .u64 0, .int .u64 0] := a2
   have y := a0.cell 2 _ rfl
   have hlen : 2 < ([.int .u64 ((m : Int) / 2 ^ k), .int .u64 0, .int .u64 0, .int .u64 0] : List Value).length := by simp
   go_upto_region 11 with ((with_reducible refine wpList_storeI 102 a2 hlen .u64 0 ?_ ?_ size_u64 ?_); rfl; rfl; intro w1 c2 f1)
   replace c2 : Av w1 (w.heap.size + 1 + 1) 139 [.int .u64 ((m : Int) / 2 ^ k), .int .u64 0, .int .u64 0, .int .u64 0] := c2
   have c0 := f1.av a0 (by omega)
   have c1 := f1.av a1 (by omega)
   have b1 := bw.trans (f1.below (B := w.heap.size) (fun k hk => by omega) bw.size)
   go_wp2_with fail
   refine wp_region_relT 14 [] Ext (by kernel_rfl) (by kernel_rfl) (by kernel_rfl) (by kernel_rfl) (by kernel_rfl) Ext.refl Ext.trans (by intro p hp; cases hp) ?_
   refine ZM ?_
   refine ZP (c := .pointer (some ⟨(w.heap.size + 1 + 1), 2, none⟩)) (fun w _ => by go_simp; first | done | rfl | omega) ?_
   refine ZP (c := .int .u64 0) (fun w hw => by have := (c2.below hw.drew).cell 2 _ rfl; go_simp; first | done | rfl) ?_
   refine ZM ?_
   refine ZM ?_
   refine ZP (c := .int .i64 2) (fun w _ => by go_simp; first | done | rfl | omega) ?_
   refine ZP (c := .int .i64 3) (fun w _ => by go_simp; first | done | rfl | omega) ?_
   refine ZP (c := .pointer (some ⟨w.heap.size, 3, none⟩)) (fun w _ => by go_simp; first | done | rfl | omega) ?_
   refine ZP (c := .int .u64 0) (fun w hw => by have := (c0.below hw.drew).cell 3 _ rfl; go_simp; first | done | rfl) ?_
   refine ZM ?_
   refine ZP (c := .int .i64 (64 - (k : Int))) (fun w _ => by go_simp; first | done | rfl | omega) ?_
   refine ZP (c := .int .u64 0) (fun w _ => by go_simp; first | done | rfl | omega) ?_
   refine ZP (c := .int .u64 0) (fun w _ => by go_simp; first | done | rfl | omega) ?_
   refine ZP (c := .pointer (some ⟨(w.heap.size + 1 + 1), 2, none⟩)) (fun w _ => by go_simp; first | done | rfl | omega) ?_
   refine relEnd fun w2 hw2 => fill_end ?_
   have d0 := c0.below hw2.drew
   have d1 := c1.below hw2.drew
   have d2 := c2.below hw2.drew
   have b2 := b1.trans (hw2.drew.mono b1.size)
   have hlen2 : 2 < ([.int .u64 ((m : Int) / 2 ^ k), .int .u64 0, .int .u64 0, .int .u64 0] : List Value).length := by simp
   simp only [List.drop_succ_cons, List.drop_zero]
   ((with_reducible refine wpList_storeI 102 d2 hlen2 .u64 0 ?_ ?_ size_u64 ?_); rfl; rfl; intro w3 g2 f3)
   have g0 := f3.av d0 (by omega)
   have g1 := f3.av d1 (by omega)
   have b3 := b2.trans (f3.below (B := w.heap.size) (fun k hk => by omega) b2.size)
   go_wp2
   exact ⟨⟨3, by omega, by go_num, b3, g0, g1, g2⟩, by simp [intOf]⟩
  ·replace a2 : Av wr (w.heap.size + 1 + 1) 139 [.int .u64 ((m : Int) / 2 ^ k), .int .u64 0, .int .u64 0, .int .u64 0] := a2
   have y := a0.cell 3 _ rfl
   have hlen : 3 < ([.int .u64 ((m : Int) / 2 ^ k), .int .u64 0, .int .u64 0, .int .u64 0] : List Value).length := by simp
   go_upto_region 11 with ((with_reducible refine wpList_storeI 102 a2 hlen .u64 0 ?_ ?_ size_u64 ?_); rfl; rfl; intro w1 c2 f1)
   replace c2 : Av w1 (w.heap.size + 1 + 1) 139 [.int .u64 ((m : Int) / 2 ^ k), .int .u64 0, .int .u64 0, .int .u64 0] := c2
   have c0 := f1.av a0 (by omega)
   have c1 := f1.av a1 (by omega)
   have b1 := bw.trans (f1.below (B := w.heap.size) (fun k hk => by omega) bw.size)
   go_wp2
   exact ⟨⟨4, by omega, by go_num, b1, c0, c1, c2⟩, by simp [intOf]⟩
  ·replace a2 : Av wr (w.heap.size + 1 + 1) 139 [.int .u64 ((m : Int) / 2 ^ k), .int .u64 0, .int .u64 0, .int .u64 0] := a2
   have hb : w.heap.size ≤ (w.heap.size + 1) := by omega
   go_wp2_with (first
    | ((with_reducible refine wpList_loadF 139 a2 ?_ _ 4 ?_ Tryd.underlying139 ?_ ?_ ?_); rfl; rfl; rfl; kernel_rfl)
    | ((with_reducible refine wpList_storeFA 139 bw a1 hb [.int .u64 ((m : Int) / 2 ^ k), .int .u64 0, .int .u64 0, .int .u64 0] ?_ ?_ 4 ?_ ?_ ?_ ?_ ?_); rfl; rfl; rfl; kernel_rfl; rfl; rfl; intro w6 a6 b6 k6 z6))
   refine bodyPost_ret (results_cell_row rfl _ _ (w.heap.size + 1) _ _ (0, 0) _ (by rfl) a6 Tryd.underlying139 rfl (by kernel_rfl)) rfl ⟨?_, b6⟩
   simp [uq4]
end Go.Proofs.YtobjgebojhjhnaaDoor
