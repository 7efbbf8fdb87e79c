import Derived.Test.YtobjgebojhjhnaaDoorUs
import Derived.Test.YtobjgebojhjhnaaDoorQr4
import Derived.Test.YtobjgebojhjhnaaDoorQr2
namespace Go.Proofs.YtobjgebojhjhnaaDoor
open Go.RowKit
theorem RS.ofBelow {H : Nat} {t : TypeId} {C : List Value} {w w' : World} (h : Below w.heap.size w w') : RS H t C w w' :=
 ⟨Below.fr h, fun a => a.below h, fun ⟨l, a, e⟩ => ⟨l, a.below h, e⟩⟩
theorem sizeOf_u64 (w : World) : (sizeOf 102).run Tryd.prog w = .ok 1 w := by
 obtain ⟨i0, hi, hz⟩ := Option.map_eq_some_iff.1 size_u64
 simp [sizeOf, typeInfo, hi, hz]
set_option maxRecDepth 100000 in
theorem eqInU (a b c d a' b' c' d' : Nat) (w : World) : (Op.equalIn 10000 139 (.agg (uq4 a b c d).toArray) (.agg (uq4 a' b' c' d').toArray)).run Tryd.prog w = .ok (decide (a = a' ∧ b = b' ∧ c = c' ∧ d = d')) w := by
 have h := run_equalIn_ints w 9998 139 102 4 .u64 Tryd.underlying139 Tryd.underlying102 sizeOf_u64 [(a : Int), b, c, d] [(a' : Int), b', c', d'] rfl rfl
 refine h.trans ?_
 congr 1
 rw [Bool.eq_iff_iff]
 simp
 omega
theorem eqlU (a b c d a' b' c' d' : Nat) (w : World) : (binOp .eql 139 (.agg (uq4 a b c d).toArray) (.agg (uq4 a' b' c' d').toArray)).run Tryd.prog w = .ok (.bool (decide (a = a' ∧ b = b' ∧ c = c' ∧ d = d'))) w := by
 rw [run_eql_struct, eqInU]
 rfl
theorem neqU (a b c d a' b' c' d' : Nat) (w : World) : (binOp .neq 139 (.agg (uq4 a b c d).toArray) (.agg (uq4 a' b' c' d').toArray)).run Tryd.prog w = .ok (.bool (!decide (a = a' ∧ b = b' ∧ c = c' ∧ d = d'))) w := by
 rw [run_neq_struct, eqInU]
 rfl
theorem eqlUg (a b c d a' b' c' d' : Nat) (x y : Operand) (w : World) : (do eqGuard .eql 139 x y (.agg (uq4 a b c d).toArray) (.agg (uq4 a' b' c' d').toArray); binOp .eql 139 (.agg (uq4 a b c d).toArray) (.agg (uq4 a' b' c' d').toArray) : Sem Value).run Tryd.prog w = .ok (.bool (decide (a = a' ∧ b = b' ∧ c = c' ∧ d = d'))) w := by
 rw [Sem.run_bind, show (eqGuard .eql 139 x y (.agg (uq4 a b c d).toArray) (.agg (uq4 a' b' c' d').toArray)).run Tryd.prog w = .ok () w by go_simp, Result.andThen_ok, eqlU]
theorem neqUg (a b c d a' b' c' d' : Nat) (x y : Operand) (w : World) : (do eqGuard .neq 139 x y (.agg (uq4 a b c d).toArray) (.agg (uq4 a' b' c' d').toArray); binOp .neq 139 (.agg (uq4 a b c d).toArray) (.agg (uq4 a' b' c' d').toArray) : Sem Value).run Tryd.prog w = .ok (.bool (!decide (a = a' ∧ b = b' ∧ c = c' ∧ d = d'))) w := by
 rw [Sem.run_bind, show (eqGuard .neq 139 x y (.agg (uq4 a b c d).toArray) (.agg (uq4 a' b' c' d').toArray)).run Tryd.prog w = .ok () w by go_simp, Result.andThen_ok, neqU]
set_option maxRecDepth 10000 in
set_option maxHeartbeats 4000000 in
theorem UShl_z (m : Nat) (w : World) :
  Calls Tryd.prog 94 #[.agg (uq4 m 0 0 0).toArray, .int .i64 0] w fun e w' => e = .returned (.tuple #[.agg (uq4 m 0 0 0).toArray, .bool false]) ∧ Below w.heap.size w w' := by
 obtain ⟨W, hW⟩ : ∃ W, W = (w.alloc (.cells (uq4 m 0 0 0).toArray 139)).alloc (.cells #[.int .u64 0, .int .u64 0, .int .u64 0, .int .u64 0] 139) := ⟨_, rfl⟩
 obtain ⟨H, hH⟩ : ∃ H, H = w.heap.size := ⟨_, rfl⟩
 have bW : Below w.heap.size w W := by rw [hW]; exact ((Below.refl _ _).alloc (Nat.le_refl _) _).alloc (by simp) _
 have aW : Av W H 139 (uq4 m 0 0 0) := by rw [hW, hH]; exact heap_alloc2_old _ _ _
 have rW : Av W (H + 1) 139 [.int .u64 0, .int .u64 0, .int .u64 0, .int .u64 0] := by rw [hW, hH]; exact heap_alloc2_new _ _ _
 have hH1 : w.heap.size ≤ H + 1 := by rw [hH]; omega
 replace hW := Lib.hid hW
 replace hH := Lib.hid hH
 go_enter Tryd.func94, Tryd.ntmps94
 go_upto_region 1 with fail
 rw [← hW.out, ← hH.out]
 go_wp2_with (first
  | ((with_reducible refine wpList_loadF 139 aW ?_ _ 4 ?_ Tryd.underlying139 ?_ ?_ ?_); rfl; rfl; rfl; kernel_rfl)
  | ((with_reducible refine wpList_storeFA 139 bW rW hH1 (uq4 m 0 0 0) ?_ ?_ 4 ?_ ?_ ?_ ?_ ?_); rfl; rfl; rfl; kernel_rfl; rfl; rfl; intro w6 a6 b6 k6 z6))
 refine bodyPost_ret (v := .tuple #[.agg (uq4 m 0 0 0).toArray, .bool false]) ((results_cellU (C := uq4 m 0 0 0) (by rfl) (by rfl) a6 _ Tryd.underlying139 rfl 4 rfl (by kernel_rfl)).trans (by rfl)) (by rfl) ?_
 exact ⟨rfl, b6⟩
set_option maxRecDepth 10000 in
set_option maxHeartbeats 8000000 in
theorem UShl_0 (m d : Nat) (hm : m < 4294967296) (hd : d < 64) (hd0 : 0 < 0 + d) (w : World) :
  Calls Tryd.prog 94 #[.agg (uq4 m 0 0 0).toArray, .int .i64 ((0 + d : Nat) : Int)] w fun e w' => e = .returned (.tuple #[.agg [.int .u64 ((m : Int) * 2 ^ d % 18446744073709551616), .int .u64 ((m : Int) / 2 ^ (64 - d)), .int .u64 0, .int .u64 0].toArray, .bool (decide (256 < len4 m 0 0 0 + (0 + d)))]) ∧ Below w.heap.size w w' := by
 obtain ⟨N, hN⟩ : ∃ N : Nat, N = 0 + d := ⟨_, rfl⟩
 rw [← hN]
 have hb := bitLen_64 (x := m) (by omega)
 have HL := fun w => ULen4 m 0 0 0 (by omega) (by omega) (by omega) (by omega) w
 have hl4 : len4 m 0 0 0 ≤ 64 := by simpa [len4] using hb
 generalize len4 m 0 0 0 = K at *
 replace HL := Lib.hid HL
 have t1 : decide ((N : Int) ≤ 0) = false := by simp; omega
 have t2 : decide ((256 : Int) ≤ (N : Int)) = false := by simp; omega
 have e1 : Int.tdiv (N : Int) 64 = 0 := by rw [Int.tdiv_eq_ediv_of_nonneg (by omega)]; omega
 have e2 : Int.tmod (N : Int) 64 = (d : Int) := by rw [Int.tmod_eq_emod_of_nonneg (by omega)]; omega
 have e3 : IntKind.i64.wrap (64 - (d : Int)) = 64 - (d : Int) := by rw [IntKind.wrap_i64]; omega
 have e4 : (64 - (d : Int)).toNat = 64 - d := by omega
 have e5 : 0 ≤ 64 - (d : Int) := by omega
 have e6 : IntKind.i64.wrap ((K : Int) + (N : Int)) = (K : Int) + (N : Int) := by rw [IntKind.wrap_i64]; omega
 have hv0 : 0 ≤ ((m : Int) / 2 ^ (64 - d)) := Int.ediv_nonneg (by omega) (by exact Int.le_of_lt (Int.pow_pos (by omega)))
 have hv1 : ((m : Int) / 2 ^ (64 - d)) < 18446744073709551616 := Int.lt_of_le_of_lt (Int.ediv_le_self _ (by omega)) (by omega)
 have hor : bits .or .u64 0 ((m : Int) / 2 ^ (64 - d)) = ((m : Int) / 2 ^ (64 - d)) := or_zl _ hv0 hv1
 have hoz : bits .or .u64 0 0 = 0 := by decide
 have hk1 : ¬ N = 0 := by omega
 replace hN := Lib.hid hN
 replace hb := Lib.hid hb
 go_enter Tryd.func94, Tryd.ntmps94
 go_wp2
 go_loopw [9] (fun i wr => ∃ j : Nat, j ≤ 4 ∧ i = .int .i64 ((0 + j : Nat) : Int) ∧ Below w.heap.size w wr ∧ Av wr w.heap.size 139 (uq4 m 0 0 0) ∧ Av wr (w.heap.size + 1) 139 [.int .u64 0, .int .u64 0, .int .u64 0, .int .u64 0] ∧ Av wr (w.heap.size + 1 + 1) 139 (if j = 0 then [.int .u64 0, .int .u64 0, .int .u64 0, .int .u64 0] else if j = 1 then [.int .u64 ((m : Int) * 2 ^ d % 18446744073709551616), .int .u64 0, .int .u64 0, .int .u64 0] else [.int .u64 ((m : Int) * 2 ^ d % 18446744073709551616), .int .u64 ((m : Int) / 2 ^ (64 - d)), .int .u64 0, .int .u64 0])) (fun i _ => 4 - (intOf i).toNat)
 case atStart =>
  refine ⟨0, by omega, rfl, (((Below.refl _ _).alloc (Nat.le_refl _) _).alloc (by simp) _).alloc (by simp; omega) _, Av.alloc (heap_alloc2_old _ _ _) _, Av.alloc (heap_alloc2_new _ _ _) _, ?_⟩
  have e : ∀ (v : World) (o : Obj), (v.alloc o).heap.size = v.heap.size + 1 := fun v o => by simp
  have := heap_alloc_new ((w.alloc (.cells (uq4 m 0 0 0).toArray 139)).alloc (.cells #[.int .u64 0, .int .u64 0, .int .u64 0, .int .u64 0] 139)) (.cells #[.int .u64 0, .int .u64 0, .int .u64 0, .int .u64 0] 139)
  rw [e, e] at this
  exact this
 case round =>
  obtain ⟨j, hj, rfl, bw, a0, a1, a2⟩ := hrel
  have hj5 : j = 0 ∨ j = 1 ∨ j = 2 ∨ j = 3 ∨ j = 4 := by omega
  rcases hj5 with rfl | rfl | rfl | rfl | rfl
  ·replace a2 : Av wr (w.heap.size + 1 + 1) 139 [.int .u64 0, .int .u64 0, .int .u64 0, .int .u64 0] := a2
   have y := a0.cell 0 _ rfl
   have hlen : 0 < ([.int .u64 0, .int .u64 0, .int .u64 0, .int .u64 0] : List Value).length := by simp
   go_upto_region 11 with ((with_reducible refine wpList_storeI 102 a2 hlen .u64 ((m : Int) * 2 ^ d % 18446744073709551616) ?_ ?_ size_u64 ?_); rfl; rfl; intro w1 c2 f1)
   replace c2 : Av w1 (w.heap.size + 1 + 1) 139 [.int .u64 ((m : Int) * 2 ^ d % 18446744073709551616), .int .u64 0, .int .u64 0, .int .u64 0] := c2
   have c0 := f1.av a0 (by omega)
   have c1 := f1.av a1 (by omega)
   have b1 := bw.trans (f1.below (B := w.heap.size) (fun k hk => by omega) bw.size)
   go_wp2
   exact ⟨⟨1, by omega, by go_num, b1, c0, c1, c2⟩, by simp [intOf]⟩
  ·replace a2 : Av wr (w.heap.size + 1 + 1) 139 [.int .u64 ((m : Int) * 2 ^ d % 18446744073709551616), .int .u64 0, .int .u64 0, .int .u64 0] := a2
   have y := a0.cell 1 _ rfl
   have hlen : 1 < ([.int .u64 ((m : Int) * 2 ^ d % 18446744073709551616), .int .u64 0, .int .u64 0, .int .u64 0] : List Value).length := by simp
   go_upto_region 11 with ((with_reducible refine wpList_storeI 102 a2 hlen .u64 0 ?_ ?_ size_u64 ?_); rfl; rfl; intro w1 c2 f1)
   replace c2 : Av w1 (w.heap.size + 1 + 1) 139 [.int .u64 ((m : Int) * 2 ^ d % 18446744073709551616), .int .u64 0, .int .u64 0, .int .u64 0] := c2
   have c0 := f1.av a0 (by omega)
   have c1 := f1.av a1 (by omega)
   have b1 := bw.trans (f1.below (B := w.heap.size) (fun k hk => by omega) bw.size)
   go_wp2_with fail
   refine wp_region_relT 14 [] Ext (by kernel_rfl) (by kernel_rfl) (by kernel_rfl) (by kernel_rfl) (by kernel_rfl) Ext.refl Ext.trans (by intro p hp; cases hp) ?_
   refine ZM ?_
   refine ZP (c := .pointer (some ⟨(w.heap.size + 1 + 1), 1, none⟩)) (fun w _ => by go_simp; first | done | rfl | omega) ?_
   refine ZP (c := .int .u64 0) (fun w hw => by have := (c2.below hw.drew).cell 1 _ rfl; go_simp; first | done | rfl) ?_
   refine ZM ?_
   refine ZM ?_
   refine ZP (c := .int .i64 1) (fun w _ => by go_simp; first | done | rfl | omega) ?_
   refine ZP (c := .int .i64 0) (fun w _ => by go_simp; first | done | rfl | omega) ?_
   refine ZP (c := .pointer (some ⟨w.heap.size, 0, none⟩)) (fun w _ => by go_simp; first | done | rfl | omega) ?_
   refine ZP (c := .int .u64 (m : Int)) (fun w hw => by have := (c0.below hw.drew).cell 0 _ rfl; go_simp; first | done | rfl) ?_
   refine ZM ?_
   refine ZP (c := .int .i64 (64 - (d : Int))) (fun w _ => by go_simp; first | done | rfl | omega) ?_
   refine ZP (c := .int .u64 ((m : Int) / 2 ^ (64 - d))) (fun w _ => by go_simp; first | done | rfl | omega) ?_
   refine ZP (c := .int .u64 ((m : Int) / 2 ^ (64 - d))) (fun w _ => by go_simp; first | done | rfl | omega) ?_
   refine ZP (c := .pointer (some ⟨(w.heap.size + 1 + 1), 1, none⟩)) (fun w _ => by go_simp; first | done | rfl | omega) ?_
   refine relEnd fun w2 hw2 => fill_end ?_
   have d0 := c0.below hw2.drew
   have d1 := c1.below hw2.drew
   have d2 := c2.below hw2.drew
   have b2 := b1.trans (hw2.drew.mono b1.size)
   have hlen2 : 1 < ([.int .u64 ((m : Int) * 2 ^ d % 18446744073709551616), .int .u64 0, .int .u64 0, .int .u64 0] : List Value).length := by simp
   simp only [List.drop_succ_cons, List.drop_zero]
   ((with_reducible refine wpList_storeI 102 d2 hlen2 .u64 ((m : Int) / 2 ^ (64 - d)) ?_ ?_ size_u64 ?_); rfl; rfl; intro w3 g2 f3)
   have g0 := f3.av d0 (by omega)
   have g1 := f3.av d1 (by omega)
   have b3 := b2.trans (f3.below (B := w.heap.size) (fun k hk => by omega) b2.size)
   go_wp2
   exact ⟨⟨2, by omega, by go_num, b3, g0, g1, g2⟩, by simp [intOf]⟩
  ·replace a2 : Av wr (w.heap.size + 1 + 1) 139 [.int .u64 ((m : Int) * 2 ^ d % 18446744073709551616), .int .u64 ((m : Int) / 2 ^ (64 - d)), .int .u64 0, .int .u64 0] := a2
   have y := a0.cell 2 _ rfl
   have hlen : 2 < ([.int .u64 ((m : Int) * 2 ^ d % 18446744073709551616), .int .u64 ((m : Int) / 2 ^ (64 - d)), .int .u64 0, .int .u64 0] : List Value).length := by simp
   go_upto_region 11 with ((with_reducible refine wpList_storeI 102 a2 hlen .u64 0 ?_ ?_ size_u64 ?_); rfl; rfl; intro w1 c2 f1)
   replace c2 : Av w1 (w.heap.size + 1 + 1) 139 [.int .u64 ((m : Int) * 2 ^ d % 18446744073709551616), .int .u64 ((m : Int) / 2 ^ (64 - d)), .int .u64 0, .int .u64 0] := c2
   have c0 := f1.av a0 (by omega)
   have c1 := f1.av a1 (by omega)
   have b1 := bw.trans (f1.below (B := w.heap.size) (fun k hk => by omega) bw.size)
   go_wp2_with fail
   refine wp_region_relT 14 [] Ext (by kernel_rfl) (by kernel_rfl) (by kernel_rfl) (by kernel_rfl) (by kernel_rfl) Ext.refl Ext.trans (by intro p hp; cases hp) ?_
   refine ZM ?_
   refine ZP (c := .pointer (some ⟨(w.heap.size + 1 + 1), 2, none⟩)) (fun w _ => by go_simp; first | done | rfl | omega) ?_
   refine ZP (c := .int .u64 0) (fun w hw => by have := (c2.below hw.drew).cell 2 _ rfl; go_simp; first | done | rfl) ?_
   refine ZM ?_
   refine ZM ?_
   refine ZP (c := .int .i64 2) (fun w _ => by go_simp; first | done | rfl | omega) ?_
   refine ZP (c := .int .i64 1) (fun w _ => by go_simp; first | done | rfl | omega) ?_
   refine ZP (c := .pointer (some ⟨w.heap.size, 1, none⟩)) (fun w _ => by go_simp; first | done | rfl | omega) ?_
   refine ZP (c := .int .u64 0) (fun w hw => by have := (c0.below hw.drew).cell 1 _ rfl; go_simp; first | done | rfl) ?_
   refine ZM ?_
   refine ZP (c := .int .i64 (64 - (d : Int))) (fun w _ => by go_simp; first | done | rfl | omega) ?_
   refine ZP (c := .int .u64 0) (fun w _ => by go_simp; first | done | rfl | omega) ?_
   refine ZP (c := .int .u64 0) (fun w _ => by go_simp; first | done | rfl | omega) ?_
   refine ZP (c := .pointer (some ⟨(w.heap.size + 1 + 1), 2, none⟩)) (fun w _ => by go_simp; first | done | rfl | omega) ?_
   refine relEnd fun w2 hw2 => fill_end ?_
   have d0 := c0.below hw2.drew
   have d1 := c1.below hw2.drew
   have d2 := c2.below hw2.drew
   have b2 := b1.trans (hw2.drew.mono b1.size)
   have hlen2 : 2 < ([.int .u64 ((m : Int) * 2 ^ d % 18446744073709551616), .int .u64 ((m : Int) / 2 ^ (64 - d)), .int .u64 0, .int .u64 0] : List Value).length := by simp
   simp only [List.drop_succ_cons, List.drop_zero]
   ((with_reducible refine wpList_storeI 102 d2 hlen2 .u64 0 ?_ ?_ size_u64 ?_); rfl; rfl; intro w3 g2 f3)
   have g0 := f3.av d0 (by omega)
   have g1 := f3.av d1 (by omega)
   have b3 := b2.trans (f3.below (B := w.heap.size) (fun k hk => by omega) b2.size)
   go_wp2
   exact ⟨⟨3, by omega, by go_num, b3, g0, g1, g2⟩, by simp [intOf]⟩
  ·replace a2 : Av wr (w.heap.size + 1 + 1) 139 [.int .u64 ((m : Int) * 2 ^ d % 18446744073709551616), .int .u64 ((m : Int) / 2 ^ (64 - d)), .int .u64 0, .int .u64 0] := a2
   have y := a0.cell 3 _ rfl
   have hlen : 3 < ([.int .u64 ((m : Int) * 2 ^ d % 18446744073709551616), .int .u64 ((m : Int) / 2 ^ (64 - d)), .int .u64 0, .int .u64 0] : List Value).length := by simp
   go_upto_region 11 with ((with_reducible refine wpList_storeI 102 a2 hlen .u64 0 ?_ ?_ size_u64 ?_); rfl; rfl; intro w1 c2 f1)
   replace c2 : Av w1 (w.heap.size + 1 + 1) 139 [.int .u64 ((m : Int) * 2 ^ d % 18446744073709551616), .int .u64 ((m : Int) / 2 ^ (64 - d)), .int .u64 0, .int .u64 0] := c2
   have c0 := f1.av a0 (by omega)
   have c1 := f1.av a1 (by omega)
   have b1 := bw.trans (f1.below (B := w.heap.size) (fun k hk => by omega) bw.size)
   go_wp2_with fail
   refine wp_region_relT 14 [] Ext (by kernel_rfl) (by kernel_rfl) (by kernel_rfl) (by kernel_rfl) (by kernel_rfl) Ext.refl Ext.trans (by intro p hp; cases hp) ?_
   refine ZM ?_
   refine ZP (c := .pointer (some ⟨(w.heap.size + 1 + 1), 3, none⟩)) (fun w _ => by go_simp; first | done | rfl | omega) ?_
   refine ZP (c := .int .u64 0) (fun w hw => by have := (c2.below hw.drew).cell 3 _ rfl; go_simp; first | done | rfl) ?_
   refine ZM ?_
   refine ZM ?_
   refine ZP (c := .int .i64 3) (fun w _ => by go_simp; first | done | rfl | omega) ?_
   refine ZP (c := .int .i64 2) (fun w _ => by go_simp; first | done | rfl | omega) ?_
   refine ZP (c := .pointer (some ⟨w.heap.size, 2, none⟩)) (fun w _ => by go_simp; first | done | rfl | omega) ?_
   refine ZP (c := .int .u64 0) (fun w hw => by have := (c0.below hw.drew).cell 2 _ rfl; go_simp; first | done | rfl) ?_
   refine ZM ?_
   refine ZP (c := .int .i64 (64 - (d : Int))) (fun w _ => by go_simp; first | done | rfl | omega) ?_
   refine ZP (c := .int .u64 0) (fun w _ => by go_simp; first | done | rfl | omega) ?_
   refine ZP (c := .int .u64 0) (fun w _ => by go_simp; first | done | rfl | omega) ?_
   refine ZP (c := .pointer (some ⟨(w.heap.size + 1 + 1), 3, none⟩)) (fun w _ => by go_simp; first | done | rfl | omega) ?_
   refine relEnd fun w2 hw2 => fill_end ?_
   have d0 := c0.below hw2.drew
   have d1 := c1.below hw2.drew
   have d2 := c2.below hw2.drew
   have b2 := b1.trans (hw2.drew.mono b1.size)
   have hlen2 : 3 < ([.int .u64 ((m : Int) * 2 ^ d % 18446744073709551616), .int .u64 ((m : Int) / 2 ^ (64 - d)), .int .u64 0, .int .u64 0] : List Value).length := by simp
   simp only [List.drop_succ_cons, List.drop_zero]
   ((with_reducible refine wpList_storeI 102 d2 hlen2 .u64 0 ?_ ?_ size_u64 ?_); rfl; rfl; intro w3 g2 f3)
   have g0 := f3.av d0 (by omega)
   have g1 := f3.av d1 (by omega)
   have b3 := b2.trans (f3.below (B := w.heap.size) (fun k hk => by omega) b2.size)
   go_wp2
   exact ⟨⟨4, by omega, by go_num, b3, g0, g1, g2⟩, by simp [intOf]⟩
  ·replace a2 : Av wr (w.heap.size + 1 + 1) 139 [.int .u64 ((m : Int) * 2 ^ d % 18446744073709551616), .int .u64 ((m : Int) / 2 ^ (64 - d)), .int .u64 0, .int .u64 0] := a2
   go_wp2_with fail
   refine wp_region_relG 7 [] [(6, fun w' => Av w' (w.heap.size + 1) 139 [.int .u64 ((m : Int) * 2 ^ d % 18446744073709551616), .int .u64 ((m : Int) / 2 ^ (64 - d)), .int .u64 0, .int .u64 0])] (RS (w.heap.size + 1) 139 [.int .u64 ((m : Int) * 2 ^ d % 18446744073709551616), .int .u64 ((m : Int) / 2 ^ (64 - d)), .int .u64 0, .int .u64 0]) (by kernel_rfl) (by kernel_rfl) (by kernel_rfl) (by kernel_rfl) (by kernel_rfl) (by kernel_rfl) (fun w => RS.refl w) RS.trans (by intro p hp; cases hp) (by
    intro p hp w w' hR h
    simp only [List.mem_singleton] at hp
    subst hp
    exact hR.2.1 h) ?_
   refine gel (fun w => RS.refl w) rfl (relPure (fun w => RS.refl w) rfl rfl rfl rfl (c := .agg [.int .u64 ((m : Int) * 2 ^ d % 18446744073709551616), .int .u64 ((m : Int) / 2 ^ (64 - d)), .int .u64 0, .int .u64 0].toArray) (fun w hw => exec_loadAv (l := [.int .u64 ((m : Int) * 2 ^ d % 18446744073709551616), .int .u64 ((m : Int) / 2 ^ (64 - d)), .int .u64 0, .int .u64 0]) (hw.1.av a2.drew (by omega)) _ _ rfl rfl _ 4 rfl Tryd.underlying139 rfl (by kernel_rfl)) (by simp only [Zs]; rfl) (gend ?_))
   refine gel (fun w => RS.refl w) rfl (relPure (fun w => RS.refl w) rfl rfl rfl rfl (c := .agg (uq4 m 0 0 0).toArray) (fun w hw => exec_loadAv (l := uq4 m 0 0 0) (hw.1.av a0.drew (by omega)) _ _ rfl rfl _ 4 rfl Tryd.underlying139 rfl (by kernel_rfl)) (by simp only [Zs]; rfl) (gend ?_))
   refine gel (fun w => RS.refl w) rfl (relCall1 rfl rfl rfl rfl (c := .int .i64 (K : Int)) 95 #[.agg (uq4 m 0 0 0).toArray] (fun w => by go_simp) (fun w hw => (HL.out w).mono (by rintro e w' ⟨rfl, hb⟩; exact ⟨rfl, RS.ofBelow hb⟩)) (by simp only [Zs]; rfl) (gend ?_))
   refine gel (fun w => RS.refl w) rfl (relMove (fun w => RS.refl w) rfl rfl rfl rfl _ (.inl rfl) (by conv => lhs; whnf) (by simp only [Zs]; rfl) (gend ?_))
   refine gel (fun w => RS.refl w) rfl (relPure (fun w => RS.refl w) rfl rfl rfl rfl (c := .int .i64 ((K : Int) + (N : Int))) (fun w _ => by go_simp; first | done | rfl | omega) (by simp only [Zs]; rfl) (gend ?_))
   refine gel (fun w => RS.refl w) rfl (relPure (fun w => RS.refl w) rfl rfl rfl rfl (c := .bool (decide ((256 : Int) < (K : Int) + (N : Int)))) (fun w _ => by go_simp; first | done | rfl | omega) (by simp only [Zs]; rfl) (gend ?_))
   refine gStore rfl rfl (fun w hw => exec_storeAv (C := [.int .u64 ((m : Int) * 2 ^ d % 18446744073709551616), .int .u64 ((m : Int) / 2 ^ (64 - d)), .int .u64 0, .int .u64 0]) a1.drew rfl hw _ _ _ rfl rfl rfl 4 rfl (by kernel_rfl) rfl 6) ?_
   refine relEndG fun w5 hw5 hg => ?_
   simp only [List.drop_succ_cons, List.drop_zero]
   have a5 := hg (6, fun w' => Av w' (w.heap.size + 1) 139 [.int .u64 ((m : Int) * 2 ^ d % 18446744073709551616), .int .u64 ((m : Int) / 2 ^ (64 - d)), .int .u64 0, .int .u64 0]) (List.mem_singleton.2 rfl)
   have f5 := Fr.ofDrew hw5.1
   have b5 := bw.trans (f5.below (B := w.heap.size) (fun k hk => by omega) bw.size)
   go_wp2
   refine bodyPost_ret (v := .tuple #[.agg [.int .u64 ((m : Int) * 2 ^ d % 18446744073709551616), .int .u64 ((m : Int) / 2 ^ (64 - d)), .int .u64 0, .int .u64 0].toArray, .bool (decide ((256 : Int) < (K : Int) + (N : Int)))]) ((results_cellU (C := [.int .u64 ((m : Int) * 2 ^ d % 18446744073709551616), .int .u64 ((m : Int) / 2 ^ (64 - d)), .int .u64 0, .int .u64 0]) (by rfl) (by rfl) a5 _ Tryd.underlying139 rfl 4 rfl (by kernel_rfl)).trans (by rfl)) (by rfl) ?_
   refine ⟨?_, b5⟩
   rw [show decide ((256 : Int) < (K : Int) + (N : Int)) = decide (256 < K + N) from decide_eq_decide.2 (by omega)]
set_option maxRecDepth 10000 in
set_option maxHeartbeats 8000000 in
theorem UShl_1 (m d : Nat) (hm : m < 4294967296) (hd : d < 64) (_ : 0 < 64 + d) (w : World) :
  Calls Tryd.prog 94 #[.agg (uq4 m 0 0 0).toArray, .int .i64 ((64 + d : Nat) : Int)] w fun e w' => e = .returned (.tuple #[.agg [.int .u64 0, .int .u64 ((m : Int) * 2 ^ d % 18446744073709551616), .int .u64 ((m : Int) / 2 ^ (64 - d)), .int .u64 0].toArray, .bool (decide (256 < len4 m 0 0 0 + (64 + d)))]) ∧ Below w.heap.size w w' := by
 obtain ⟨N, hN⟩ : ∃ N : Nat, N = 64 + d := ⟨_, rfl⟩
 rw [← hN]
 have hb := bitLen_64 (x := m) (by omega)
 have HL := fun w => ULen4 m 0 0 0 (by omega) (by omega) (by omega) (by omega) w
 have hl4 : len4 m 0 0 0 ≤ 64 := by simpa [len4] using hb
 generalize len4 m 0 0 0 = K at *
 replace HL := Lib.hid HL
 have t1 : decide ((N : Int) ≤ 0) = false := by simp; omega
 have t2 : decide ((256 : Int) ≤ (N : Int)) = false := by simp; omega
 have e1 : Int.tdiv (N : Int) 64 = 1 := by rw [Int.tdiv_eq_ediv_of_nonneg (by omega)]; omega
 have e2 : Int.tmod (N : Int) 64 = (d : Int) := by rw [Int.tmod_eq_emod_of_nonneg (by omega)]; omega
 have e3 : IntKind.i64.wrap (64 - (d : Int)) = 64 - (d : Int) := by rw [IntKind.wrap_i64]; omega
 have e4 : (64 - (d : Int)).toNat = 64 - d := by omega
 have e5 : 0 ≤ 64 - (d : Int) := by omega
 have e6 : IntKind.i64.wrap ((K : Int) + (N : Int)) = (K : Int) + (N : Int) := by rw [IntKind.wrap_i64]; omega
 have hv0 : 0 ≤ ((m : Int) / 2 ^ (64 - d)) := Int.ediv_nonneg (by omega) (by exact Int.le_of_lt (Int.pow_pos (by omega)))
 have hv1 : ((m : Int) / 2 ^ (64 - d)) < 18446744073709551616 := Int.lt_of_le_of_lt (Int.ediv_le_self _ (by omega)) (by omega)
 have hor : bits .or .u64 0 ((m : Int) / 2 ^ (64 - d)) = ((m : Int) / 2 ^ (64 - d)) := or_zl _ hv0 hv1
 have hoz : bits .or .u64 0 0 = 0 := by decide
 have hk1 : ¬ N = 0 := by omega
 replace hN := Lib.hid hN
 replace hb := Lib.hid hb
 go_enter Tryd.func94, Tryd.ntmps94
 go_wp2
 go_loopw [9] (fun i wr => ∃ j : Nat, j ≤ 3 ∧ i = .int .i64 ((1 + j : Nat) : Int) ∧ Below w.heap.size w wr ∧ Av wr w.heap.size 139 (uq4 m 0 0 0) ∧ Av wr (w.heap.size + 1) 139 [.int .u64 0, .int .u64 0, .int .u64 0, .int .u64 0] ∧ Av wr (w.heap.size + 1 + 1) 139 (if j = 0 then [.int .u64 0, .int .u64 0, .int .u64 0, .int .u64 0] else if j = 1 then [.int .u64 0, .int .u64 ((m : Int) * 2 ^ d % 18446744073709551616), .int .u64 0, .int .u64 0] else [.int .u64 0, .int .u64 ((m : Int) * 2 ^ d % 18446744073709551616), .int .u64 ((m : Int) / 2 ^ (64 - d)), .int .u64 0])) (fun i _ => 4 - (intOf i).toNat)
 case atStart =>
  refine ⟨0, by omega, rfl, (((Below.refl _ _).alloc (Nat.le_refl _) _).alloc (by simp) _).alloc (by simp; omega) _, Av.alloc (heap_alloc2_old _ _ _) _, Av.alloc (heap_alloc2_new _ _ _) _, ?_⟩
  have e : ∀ (v : World) (o : Obj), (v.alloc o).heap.size = v.heap.size + 1 := fun v o => by simp
  have := heap_alloc_new ((w.alloc (.cells (uq4 m 0 0 0).toArray 139)).alloc (.cells #[.int .u64 0, .int .u64 0, .int .u64 0, .int .u64 0] 139)) (.cells #[.int .u64 0, .int .u64 0, .int .u64 0, .int .u64 0] 139)
  rw [e, e] at this
  exact this
 case round =>
  obtain ⟨j, hj, rfl, bw, a0, a1, a2⟩ := hrel
  have hj5 : j = 0 ∨ j = 1 ∨ j = 2 ∨ j = 3 := by omega
  rcases hj5 with rfl | rfl | rfl | rfl
  ·replace a2 : Av wr (w.heap.size + 1 + 1) 139 [.int .u64 0, .int .u64 0, .int .u64 0, .int .u64 0] := a2
   have y := a0.cell 0 _ rfl
   have hlen : 1 < ([.int .u64 0, .int .u64 0, .int .u64 0, .int .u64 0] : List Value).length := by simp
   go_upto_region 11 with ((with_reducible refine wpList_storeI 102 a2 hlen .u64 ((m : Int) * 2 ^ d % 18446744073709551616) ?_ ?_ size_u64 ?_); rfl; rfl; intro w1 c2 f1)
   replace c2 : Av w1 (w.heap.size + 1 + 1) 139 [.int .u64 0, .int .u64 ((m : Int) * 2 ^ d % 18446744073709551616), .int .u64 0, .int .u64 0] := c2
   have c0 := f1.av a0 (by omega)
   have c1 := f1.av a1 (by omega)
   have b1 := bw.trans (f1.below (B := w.heap.size) (fun k hk => by omega) bw.size)
   go_wp2
   exact ⟨⟨1, by omega, by go_num, b1, c0, c1, c2⟩, by simp [intOf]⟩
  ·replace a2 : Av wr (w.heap.size + 1 + 1) 139 [.int .u64 0, .int .u64 ((m : Int) * 2 ^ d % 18446744073709551616), .int .u64 0, .int .u64 0] := a2
   have y := a0.cell 1 _ rfl
   have hlen : 2 < ([.int .u64 0, .int .u64 ((m : Int) * 2 ^ d % 18446744073709551616), .int .u64 0, .int .u64 0] : List Value).length := by simp
   go_upto_region 11 with ((with_reducible refine wpList_storeI 102 a2 hlen .u64 0 ?_ ?_ size_u64 ?_); rfl; rfl; intro w1 c2 f1)
   replace c2 : Av w1 (w.heap.size + 1 + 1) 139 [.int .u64 0, .int .u64 ((m : Int) * 2 ^ d % 18446744073709551616), .int .u64 0, .int .u64 0] := c2
   have c0 := f1.av a0 (by omega)
   have c1 := f1.av a1 (by omega)
   have b1 := bw.trans (f1.below (B := w.heap.size) (fun k hk => by omega) bw.size)
   go_wp2_with fail
   refine wp_region_relT 14 [] Ext (by kernel_rfl) (by kernel_rfl) (by kernel_rfl) (by kernel_rfl) (by kernel_rfl) Ext.refl Ext.trans (by intro p hp; cases hp) ?_
   refine ZM ?_
   refine ZP (c := .pointer (some ⟨(w.heap.size + 1 + 1), 2, none⟩)) (fun w _ => by go_simp; first | done | rfl | omega) ?_
   refine ZP (c := .int .u64 0) (fun w hw => by have := (c2.below hw.drew).cell 2 _ rfl; go_simp; first | done | rfl) ?_
   refine ZM ?_
   refine ZM ?_
   refine ZP (c := .int .i64 1) (fun w _ => by go_simp; first | done | rfl | omega) ?_
   refine ZP (c := .int .i64 0) (fun w _ => by go_simp; first | done | rfl | omega) ?_
   refine ZP (c := .pointer (some ⟨w.heap.size, 0, none⟩)) (fun w _ => by go_simp; first | done | rfl | omega) ?_
   refine ZP (c := .int .u64 (m : Int)) (fun w hw => by have := (c0.below hw.drew).cell 0 _ rfl; go_simp; first | done | rfl) ?_
   refine ZM ?_
   refine ZP (c := .int .i64 (64 - (d : Int))) (fun w _ => by go_simp; first | done | rfl | omega) ?_
   refine ZP (c := .int .u64 ((m : Int) / 2 ^ (64 - d))) (fun w _ => by go_simp; first | done | rfl | omega) ?_
   refine ZP (c := .int .u64 ((m : Int) / 2 ^ (64 - d))) (fun w _ => by go_simp; first | done | rfl | omega) ?_
   refine ZP (c := .pointer (some ⟨(w.heap.size + 1 + 1), 2, none⟩)) (fun w _ => by go_simp; first | done | rfl | omega) ?_
   refine relEnd fun w2 hw2 => fill_end ?_
   have d0 := c0.below hw2.drew
   have d1 := c1.below hw2.drew
   have d2 := c2.below hw2.drew
   have b2 := b1.trans (hw2.drew.mono b1.size)
   have hlen2 : 2 < ([.int .u64 0, .int .u64 ((m : Int) * 2 ^ d % 18446744073709551616), .int .u64 0, .int .u64 0] : List Value).length := by simp
   simp only [List.drop_succ_cons, List.drop_zero]
   ((with_reducible refine wpList_storeI 102 d2 hlen2 .u64 ((m : Int) / 2 ^ (64 - d)) ?_ ?_ size_u64 ?_); rfl; rfl; intro w3 g2 f3)
   have g0 := f3.av d0 (by omega)
   have g1 := f3.av d1 (by omega)
   have b3 := b2.trans (f3.below (B := w.heap.size) (fun k hk => by omega) b2.size)
   go_wp2
   exact ⟨⟨2, by omega, by go_num, b3, g0, g1, g2⟩, by simp [intOf]⟩
  ·replace a2 : Av wr (w.heap.size + 1 + 1) 139 [.int .u64 0, .int .u64 ((m : Int) * 2 ^ d % 18446744073709551616), .int .u64 ((m : Int) / 2 ^ (64 - d)), .int .u64 0] := a2
   have y := a0.cell 2 _ rfl
   have hlen : 3 < ([.int .u64 0, .int .u64 ((m : Int) * 2 ^ d % 18446744073709551616), .int .u64 ((m : Int) / 2 ^ (64 - d)), .int .u64 0] : List Value).length := by simp
   go_upto_region 11 with ((with_reducible refine wpList_storeI 102 a2 hlen .u64 0 ?_ ?_ size_u64 ?_); rfl; rfl; intro w1 c2 f1)
   replace c2 : Av w1 (w.heap.size + 1 + 1) 139 [.int .u64 0, .int .u64 ((m : Int) * 2 ^ d % 18446744073709551616), .int .u64 ((m : Int) / 2 ^ (64 - d)), .int .u64 0] := c2
   have c0 := f1.av a0 (by omega)
   have c1 := f1.av a1 (by omega)
   have b1 := bw.trans (f1.below (B := w.heap.size) (fun k hk => by omega) bw.size)
   go_wp2_with fail
   refine wp_region_relT 14 [] Ext (by kernel_rfl) (by kernel_rfl) (by kernel_rfl) (by kernel_rfl) (by kernel_rfl) Ext.refl Ext.trans (by intro p hp; cases hp) ?_
   refine ZM ?_
   refine ZP (c := .pointer (some ⟨(w.heap.size + 1 + 1), 3, none⟩)) (fun w _ => by go_simp; first | done | rfl | omega) ?_
   refine ZP (c := .int .u64 0) (fun w hw => by have := (c2.below hw.drew).cell 3 _ rfl; go_simp; first | done | rfl) ?_
   refine ZM ?_
   refine ZM ?_
   refine ZP (c := .int .i64 2) (fun w _ => by go_simp; first | done | rfl | omega) ?_
   refine ZP (c := .int .i64 1) (fun w _ => by go_simp; first | done | rfl | omega) ?_
   refine ZP (c := .pointer (some ⟨w.heap.size, 1, none⟩)) (fun w _ => by go_simp; first | done | rfl | omega) ?_
   refine ZP (c := .int .u64 0) (fun w hw => by have := (c0.below hw.drew).cell 1 _ rfl; go_simp; first | done | rfl) ?_
   refine ZM ?_
   refine ZP (c := .int .i64 (64 - (d : Int))) (fun w _ => by go_simp; first | done | rfl | omega) ?_
   refine ZP (c := .int .u64 0) (fun w _ => by go_simp; first | done | rfl | omega) ?_
   refine ZP (c := .int .u64 0) (fun w _ => by go_simp; first | done | rfl | omega) ?_
   refine ZP (c := .pointer (some ⟨(w.heap.size + 1 + 1), 3, none⟩)) (fun w _ => by go_simp; first | done | rfl | omega) ?_
   refine relEnd fun w2 hw2 => fill_end ?_
   have d0 := c0.below hw2.drew
   have d1 := c1.below hw2.drew
   have d2 := c2.below hw2.drew
   have b2 := b1.trans (hw2.drew.mono b1.size)
   have hlen2 : 3 < ([.int .u64 0, .int .u64 ((m : Int) * 2 ^ d % 18446744073709551616), .int .u64 ((m : Int) / 2 ^ (64 - d)), .int .u64 0] : List Value).length := by simp
   simp only [List.drop_succ_cons, List.drop_zero]
   ((with_reducible refine wpList_storeI 102 d2 hlen2 .u64 0 ?_ ?_ size_u64 ?_); rfl; rfl; intro w3 g2 f3)
   have g0 := f3.av d0 (by omega)
   have g1 := f3.av d1 (by omega)
   have b3 := b2.trans (f3.below (B := w.heap.size) (fun k hk => by omega) b2.size)
   go_wp2
   exact ⟨⟨3, by omega, by go_num, b3, g0, g1, g2⟩, by simp [intOf]⟩
  ·replace a2 : Av wr (w.heap.size + 1 + 1) 139 [.int .u64 0, .int .u64 ((m : Int) * 2 ^ d % 18446744073709551616), .int .u64 ((m : Int) / 2 ^ (64 - d)), .int .u64 0] := a2
   go_wp2_with fail
   refine wp_region_relG 7 [] [(6, fun w' => Av w' (w.heap.size + 1) 139 [.int .u64 0, .int .u64 ((m : Int) * 2 ^ d % 18446744073709551616), .int .u64 ((m : Int) / 2 ^ (64 - d)), .int .u64 0])] (RS (w.heap.size + 1) 139 [.int .u64 0, .int .u64 ((m : Int) * 2 ^ d % 18446744073709551616), .int .u64 ((m : Int) / 2 ^ (64 - d)), .int .u64 0]) (by kernel_rfl) (by kernel_rfl) (by kernel_rfl) (by kernel_rfl) (by kernel_rfl) (by kernel_rfl) (fun w => RS.refl w) RS.trans (by intro p hp; cases hp) (by
    intro p hp w w' hR h
    simp only [List.mem_singleton] at hp
    subst hp
    exact hR.2.1 h) ?_
   refine gel (fun w => RS.refl w) rfl (relPure (fun w => RS.refl w) rfl rfl rfl rfl (c := .agg [.int .u64 0, .int .u64 ((m : Int) * 2 ^ d % 18446744073709551616), .int .u64 ((m : Int) / 2 ^ (64 - d)), .int .u64 0].toArray) (fun w hw => exec_loadAv (l := [.int .u64 0, .int .u64 ((m : Int) * 2 ^ d % 18446744073709551616), .int .u64 ((m : Int) / 2 ^ (64 - d)), .int .u64 0]) (hw.1.av a2.drew (by omega)) _ _ rfl rfl _ 4 rfl Tryd.underlying139 rfl (by kernel_rfl)) (by simp only [Zs]; rfl) (gend ?_))
   refine gel (fun w => RS.refl w) rfl (relPure (fun w => RS.refl w) rfl rfl rfl rfl (c := .agg (uq4 m 0 0 0).toArray) (fun w hw => exec_loadAv (l := uq4 m 0 0 0) (hw.1.av a0.drew (by omega)) _ _ rfl rfl _ 4 rfl Tryd.underlying139 rfl (by kernel_rfl)) (by simp only [Zs]; rfl) (gend ?_))
   refine gel (fun w => RS.refl w) rfl (relCall1 rfl rfl rfl rfl (c := .int .i64 (K : Int)) 95 #[.agg (uq4 m 0 0 0).toArray] (fun w => by go_simp) (fun w hw => (HL.out w).mono (by rintro e w' ⟨rfl, hb⟩; exact ⟨rfl, RS.ofBelow hb⟩)) (by simp only [Zs]; rfl) (gend ?_))
   refine gel (fun w => RS.refl w) rfl (relMove (fun w => RS.refl w) rfl rfl rfl rfl _ (.inl rfl) (by conv => lhs; whnf) (by simp only [Zs]; rfl) (gend ?_))
   refine gel (fun w => RS.refl w) rfl (relPure (fun w => RS.refl w) rfl rfl rfl rfl (c := .int .i64 ((K : Int) + (N : Int))) (fun w _ => by go_simp; first | done | rfl | omega) (by simp only [Zs]; rfl) (gend ?_))
   refine gel (fun w => RS.refl w) rfl (relPure (fun w => RS.refl w) rfl rfl rfl rfl (c := .bool (decide ((256 : Int) < (K : Int) + (N : Int)))) (fun w _ => by go_simp; first | done | rfl | omega) (by simp only [Zs]; rfl) (gend ?_))
   refine gStore rfl rfl (fun w hw => exec_storeAv (C := [.int .u64 0, .int .u64 ((m : Int) * 2 ^ d % 18446744073709551616), .int .u64 ((m : Int) / 2 ^ (64 - d)), .int .u64 0]) a1.drew rfl hw _ _ _ rfl rfl rfl 4 rfl (by kernel_rfl) rfl 6) ?_
   refine relEndG fun w5 hw5 hg => ?_
   simp only [List.drop_succ_cons, List.drop_zero]
   have a5 := hg (6, fun w' => Av w' (w.heap.size + 1) 139 [.int .u64 0, .int .u64 ((m : Int) * 2 ^ d % 18446744073709551616), .int .u64 ((m : Int) / 2 ^ (64 - d)), .int .u64 0]) (List.mem_singleton.2 rfl)
   have f5 := Fr.ofDrew hw5.1
   have b5 := bw.trans (f5.below (B := w.heap.size) (fun k hk => by omega) bw.size)
   go_wp2
   refine bodyPost_ret (v := .tuple #[.agg [.int .u64 0, .int .u64 ((m : Int) * 2 ^ d % 18446744073709551616), .int .u64 ((m : Int) / 2 ^ (64 - d)), .int .u64 0].toArray, .bool (decide ((256 : Int) < (K : Int) + (N : Int)))]) ((results_cellU (C := [.int .u64 0, .int .u64 ((m : Int) * 2 ^ d % 18446744073709551616), .int .u64 ((m : Int) / 2 ^ (64 - d)), .int .u64 0]) (by rfl) (by rfl) a5 _ Tryd.underlying139 rfl 4 rfl (by kernel_rfl)).trans (by rfl)) (by rfl) ?_
   refine ⟨?_, b5⟩
   rw [show decide ((256 : Int) < (K : Int) + (N : Int)) = decide (256 < K + N) from decide_eq_decide.2 (by omega)]
set_option maxRecDepth 10000 in
set_option maxHeartbeats 8000000 in
theorem UShl_2 (m d : Nat) (hm : m < 4294967296) (hd : d < 64) (_ : 0 < 128 + d) (w : World) :
  Calls Tryd.prog 94 #[.agg (uq4 m 0 0 0).toArray, .int .i64 ((128 + d : Nat) : Int)] w fun e w' => e = .returned (.tuple #[.agg [.int .u64 0, .int .u64 0, .int .u64 ((m : Int) * 2 ^ d % 18446744073709551616), .int .u64 ((m : Int) / 2 ^ (64 - d))].toArray, .bool (decide (256 < len4 m 0 0 0 + (128 + d)))]) ∧ Below w.heap.size w w' := by
 obtain ⟨N, hN⟩ : ∃ N : Nat, N = 128 + d := ⟨_, rfl⟩
 rw [← hN]
 have hb := bitLen_64 (x := m) (by omega)
 have HL := fun w => ULen4 m 0 0 0 (by omega) (by omega) (by omega) (by omega) w
 have hl4 : len4 m 0 0 0 ≤ 64 := by simpa [len4] using hb
 generalize len4 m 0 0 0 = K at *
 replace HL := Lib.hid HL
 have t1 : decide ((N : Int) ≤ 0) = false := by simp; omega
 have t2 : decide ((256 : Int) ≤ (N : Int)) = false := by simp; omega
 have e1 : Int.tdiv (N : Int) 64 = 2 := by rw [Int.tdiv_eq_ediv_of_nonneg (by omega)]; omega
 have e2 : Int.tmod (N : Int) 64 = (d : Int) := by rw [Int.tmod_eq_emod_of_nonneg (by omega)]; omega
 have e3 : IntKind.i64.wrap (64 - (d : Int)) = 64 - (d : Int) := by rw [IntKind.wrap_i64]; omega
 have e4 : (64 - (d : Int)).toNat = 64 - d := by omega
 have e5 : 0 ≤ 64 - (d : Int) := by omega
 have e6 : IntKind.i64.wrap ((K : Int) + (N : Int)) = (K : Int) + (N : Int) := by rw [IntKind.wrap_i64]; omega
 have hv0 : 0 ≤ ((m : Int) / 2 ^ (64 - d)) := Int.ediv_nonneg (by omega) (by exact Int.le_of_lt (Int.pow_pos (by omega)))
 have hv1 : ((m : Int) / 2 ^ (64 - d)) < 18446744073709551616 := Int.lt_of_le_of_lt (Int.ediv_le_self _ (by omega)) (by omega)
 have hor : bits .or .u64 0 ((m : Int) / 2 ^ (64 - d)) = ((m : Int) / 2 ^ (64 - d)) := or_zl _ hv0 hv1
 have hoz : bits .or .u64 0 0 = 0 := by decide
 have hk1 : ¬ N = 0 := by omega
 replace hN := Lib.hid hN
 replace hb := Lib.hid hb
 go_enter Tryd.func94, Tryd.ntmps94
 go_wp2
 go_loopw [9] (fun i wr => ∃ j : Nat, j ≤ 2 ∧ i = .int .i64 ((2 + j : Nat) : Int) ∧ Below w.heap.size w wr ∧ Av wr w.heap.size 139 (uq4 m 0 0 0) ∧ Av wr (w.heap.size + 1) 139 [.int .u64 0, .int .u64 0, .int .u64 0, .int .u64 0] ∧ Av wr (w.heap.size + 1 + 1) 139 (if j = 0 then [.int .u64 0, .int .u64 0, .int .u64 0, .int .u64 0] else if j = 1 then [.int .u64 0, .int .u64 0, .int .u64 ((m : Int) * 2 ^ d % 18446744073709551616), .int .u64 0] else [.int .u64 0, .int .u64 0, .int .u64 ((m : Int) * 2 ^ d % 18446744073709551616), .int .u64 ((m : Int) / 2 ^ (64 - d))])) (fun i _ => 4 - (intOf i).toNat)
 case atStart =>
  refine ⟨0, by omega, rfl, (((Below.refl _ _).alloc (Nat.le_refl _) _).alloc (by simp) _).alloc (by simp; omega) _, Av.alloc (heap_alloc2_old _ _ _) _, Av.alloc (heap_alloc2_new _ _ _) _, ?_⟩
  have e : ∀ (v : World) (o : Obj), (v.alloc o).heap.size = v.heap.size + 1 := fun v o => by simp
  have := heap_alloc_new ((w.alloc (.cells (uq4 m 0 0 0).toArray 139)).alloc (.cells #[.int .u64 0, .int .u64 0, .int .u64 0, .int .u64 0] 139)) (.cells #[.int .u64 0, .int .u64 0, .int .u64 0, .int .u64 0] 139)
  rw [e, e] at this
  exact this
 case round =>
  obtain ⟨j, hj, rfl, bw, a0, a1, a2⟩ := hrel
  have hj5 : j = 0 ∨ j = 1 ∨ j = 2 := by omega
  rcases hj5 with rfl | rfl | rfl
  ·replace a2 : Av wr (w.heap.size + 1 + 1) 139 [.int .u64 0, .int .u64 0, .int .u64 0, .int .u64 0] := a2
   have y := a0.cell 0 _ rfl
   have hlen : 2 < ([.int .u64 0, .int .u64 0, .int .u64 0, .int .u64 0] : List Value).length := by simp
   go_upto_region 11 with ((with_reducible refine wpList_storeI 102 a2 hlen .u64 ((m : Int) * 2 ^ d % 18446744073709551616) ?_ ?_ size_u64 ?_); rfl; rfl; intro w1 c2 f1)
   replace c2 : Av w1 (w.heap.size + 1 + 1) 139 [.int .u64 0, .int .u64 0, .int .u64 ((m : Int) * 2 ^ d % 18446744073709551616), .int .u64 0] := c2
   have c0 := f1.av a0 (by omega)
   have c1 := f1.av a1 (by omega)
   have b1 := bw.trans (f1.below (B := w.heap.size) (fun k hk => by omega) bw.size)
   go_wp2
   exact ⟨⟨1, by omega, by go_num, b1, c0, c1, c2⟩, by simp [intOf]⟩
  ·replace a2 : Av wr (w.heap.size + 1 + 1) 139 [.int .u64 0, .int .u64 0, .int .u64 ((m : Int) * 2 ^ d % 18446744073709551616), .int .u64 0] := a2
   have y := a0.cell 1 _ rfl
   have hlen : 3 < ([.int .u64 0, .int .u64 0, .int .u64 ((m : Int) * 2 ^ d % 18446744073709551616), .int .u64 0] : List Value).length := by simp
   go_upto_region 11 with ((with_reducible refine wpList_storeI 102 a2 hlen .u64 0 ?_ ?_ size_u64 ?_); rfl; rfl; intro w1 c2 f1)
   replace c2 : Av w1 (w.heap.size + 1 + 1) 139 [.int .u64 0, .int .u64 0, .int .u64 ((m : Int) * 2 ^ d % 18446744073709551616), .int .u64 0] := c2
   have c0 := f1.av a0 (by omega)
   have c1 := f1.av a1 (by omega)
   have b1 := bw.trans (f1.below (B := w.heap.size) (fun k hk => by omega) bw.size)
   go_wp2_with fail
   refine wp_region_relT 14 [] Ext (by kernel_rfl) (by kernel_rfl) (by kernel_rfl) (by kernel_rfl) (by kernel_rfl) Ext.refl Ext.trans (by intro p hp; cases hp) ?_
   refine ZM ?_
   refine ZP (c := .pointer (some ⟨(w.heap.size + 1 + 1), 3, none⟩)) (fun w _ => by go_simp; first | done | rfl | omega) ?_
   refine ZP (c := .int .u64 0) (fun w hw => by have := (c2.below hw.drew).cell 3 _ rfl; go_simp; first | done | rfl) ?_
   refine ZM ?_
   refine ZM ?_
   refine ZP (c := .int .i64 1) (fun w _ => by go_simp; first | done | rfl | omega) ?_
   refine ZP (c := .int .i64 0) (fun w _ => by go_simp; first | done | rfl | omega) ?_
   refine ZP (c := .pointer (some ⟨w.heap.size, 0, none⟩)) (fun w _ => by go_simp; first | done | rfl | omega) ?_
   refine ZP (c := .int .u64 (m : Int)) (fun w hw => by have := (c0.below hw.drew).cell 0 _ rfl; go_simp; first | done | rfl) ?_
   refine ZM ?_
   refine ZP (c := .int .i64 (64 - (d : Int))) (fun w _ => by go_simp; first | done | rfl | omega) ?_
   refine ZP (c := .int .u64 ((m : Int) / 2 ^ (64 - d))) (fun w _ => by go_simp; first | done | rfl | omega) ?_
   refine ZP (c := .int .u64 ((m : Int) / 2 ^ (64 - d))) (fun w _ => by go_simp; first | done | rfl | omega) ?_
   refine ZP (c := .pointer (some ⟨(w.heap.size + 1 + 1), 3, none⟩)) (fun w _ => by go_simp; first | done | rfl | omega) ?_
   refine relEnd fun w2 hw2 => fill_end ?_
   have d0 := c0.below hw2.drew
   have d1 := c1.below hw2.drew
   have d2 := c2.below hw2.drew
   have b2 := b1.trans (hw2.drew.mono b1.size)
   have hlen2 : 3 < ([.int .u64 0, .int .u64 0, .int .u64 ((m : Int) * 2 ^ d % 18446744073709551616), .int .u64 0] : List Value).length := by simp
   simp only [List.drop_succ_cons, List.drop_zero]
   ((with_reducible refine wpList_storeI 102 d2 hlen2 .u64 ((m : Int) / 2 ^ (64 - d)) ?_ ?_ size_u64 ?_); rfl; rfl; intro w3 g2 f3)
   have g0 := f3.av d0 (by omega)
   have g1 := f3.av d1 (by omega)
   have b3 := b2.trans (f3.below (B := w.heap.size) (fun k hk => by omega) b2.size)
   go_wp2
   exact ⟨⟨2, by omega, by go_num, b3, g0, g1, g2⟩, by simp [intOf]⟩
  ·replace a2 : Av wr (w.heap.size + 1 + 1) 139 [.int .u64 0, .int .u64 0, .int .u64 ((m : Int) * 2 ^ d % 18446744073709551616), .int .u64 ((m : Int) / 2 ^ (64 - d))] := a2
   go_wp2_with fail
   refine wp_region_relG 7 [] [(6, fun w' => Av w' (w.heap.size + 1) 139 [.int .u64 0, .int .u64 0, .int .u64 ((m : Int) * 2 ^ d % 18446744073709551616), .int .u64 ((m : Int) / 2 ^ (64 - d))])] (RS (w.heap.size + 1) 139 [.int .u64 0, .int .u64 0, .int .u64 ((m : Int) * 2 ^ d % 18446744073709551616), .int .u64 ((m : Int) / 2 ^ (64 - d))]) (by kernel_rfl) (by kernel_rfl) (by kernel_rfl) (by kernel_rfl) (by kernel_rfl) (by kernel_rfl) (fun w => RS.refl w) RS.trans (by intro p hp; cases hp) (by
    intro p hp w w' hR h
    simp only [List.mem_singleton] at hp
    subst hp
    exact hR.2.1 h) ?_
   refine gel (fun w => RS.refl w) rfl (relPure (fun w => RS.refl w) rfl rfl rfl rfl (c := .agg [.int .u64 0, .int .u64 0, .int .u64 ((m : Int) * 2 ^ d % 18446744073709551616), .int .u64 ((m : Int) / 2 ^ (64 - d))].toArray) (fun w hw => exec_loadAv (l := [.int .u64 0, .int .u64 0, .int .u64 ((m : Int) * 2 ^ d % 18446744073709551616), .int .u64 ((m : Int) / 2 ^ (64 - d))]) (hw.1.av a2.drew (by omega)) _ _ rfl rfl _ 4 rfl Tryd.underlying139 rfl (by kernel_rfl)) (by simp only [Zs]; rfl) (gend ?_))
   refine gel (fun w => RS.refl w) rfl (relPure (fun w => RS.refl w) rfl rfl rfl rfl (c := .agg (uq4 m 0 0 0).toArray) (fun w hw => exec_loadAv (l := uq4 m 0 0 0) (hw.1.av a0.drew (by omega)) _ _ rfl rfl _ 4 rfl Tryd.underlying139 rfl (by kernel_rfl)) (by simp only [Zs]; rfl) (gend ?_))
   refine gel (fun w => RS.refl w) rfl (relCall1 rfl rfl rfl rfl (c := .int .i64 (K : Int)) 95 #[.agg (uq4 m 0 0 0).toArray] (fun w => by go_simp) (fun w hw => (HL.out w).mono (by rintro e w' ⟨rfl, hb⟩; exact ⟨rfl, RS.ofBelow hb⟩)) (by simp only [Zs]; rfl) (gend ?_))
   refine gel (fun w => RS.refl w) rfl (relMove (fun w => RS.refl w) rfl rfl rfl rfl _ (.inl rfl) (by conv => lhs; whnf) (by simp only [Zs]; rfl) (gend ?_))
   refine gel (fun w => RS.refl w) rfl (relPure (fun w => RS.refl w) rfl rfl rfl rfl (c := .int .i64 ((K : Int) + (N : Int))) (fun w _ => by go_simp; first | done | rfl | omega) (by simp only [Zs]; rfl) (gend ?_))
   refine gel (fun w => RS.refl w) rfl (relPure (fun w => RS.refl w) rfl rfl rfl rfl (c := .bool (decide ((256 : Int) < (K : Int) + (N : Int)))) (fun w _ => by go_simp; first | done | rfl | omega) (by simp only [Zs]; rfl) (gend ?_))
   refine gStore rfl rfl (fun w hw => exec_storeAv (C := [.int .u64 0, .int .u64 0, .int .u64 ((m : Int) * 2 ^ d % 18446744073709551616), .int .u64 ((m : Int) / 2 ^ (64 - d))]) a1.drew rfl hw _ _ _ rfl rfl rfl 4 rfl (by kernel_rfl) rfl 6) ?_
   refine relEndG fun w5 hw5 hg => ?_
   simp only [List.drop_succ_cons, List.drop_zero]
   have a5 := hg (6, fun w' => Av w' (w.heap.size + 1) 139 [.int .u64 0, .int .u64 0, .int .u64 ((m : Int) * 2 ^ d % 18446744073709551616), .int .u64 ((m : Int) / 2 ^ (64 - d))]) (List.mem_singleton.2 rfl)
   have f5 := Fr.ofDrew hw5.1
   have b5 := bw.trans (f5.below (B := w.heap.size) (fun k hk => by omega) bw.size)
   go_wp2
   refine bodyPost_ret (v := .tuple #[.agg [.int .u64 0, .int .u64 0, .int .u64 ((m : Int) * 2 ^ d % 18446744073709551616), .int .u64 ((m : Int) / 2 ^ (64 - d))].toArray, .bool (decide ((256 : Int) < (K : Int) + (N : Int)))]) ((results_cellU (C := [.int .u64 0, .int .u64 0, .int .u64 ((m : Int) * 2 ^ d % 18446744073709551616), .int .u64 ((m : Int) / 2 ^ (64 - d))]) (by rfl) (by rfl) a5 _ Tryd.underlying139 rfl 4 rfl (by kernel_rfl)).trans (by rfl)) (by rfl) ?_
   refine ⟨?_, b5⟩
   rw [show decide ((256 : Int) < (K : Int) + (N : Int)) = decide (256 < K + N) from decide_eq_decide.2 (by omega)]
set_option maxRecDepth 10000 in
set_option maxHeartbeats 8000000 in
theorem UShl_3 (m d : Nat) (hm : m < 4294967296) (hd : d < 64) (_ : 0 < 192 + d) (w : World) :
  Calls Tryd.prog 94 #[.agg (uq4 m 0 0 0).toArray, .int .i64 ((192 + d : Nat) : Int)] w fun e w' => e = .returned (.tuple #[.agg [.int .u64 0, .int .u64 0, .int .u64 0, .int .u64 ((m : Int) * 2 ^ d % 18446744073709551616)].toArray, .bool (decide (256 < len4 m 0 0 0 + (192 + d)))]) ∧ Below w.heap.size w w' := by
 obtain ⟨N, hN⟩ : ∃ N : Nat, N = 192 + d := ⟨_, rfl⟩
 rw [← hN]
 have hb := bitLen_64 (x := m) (by omega)
 have HL := fun w => ULen4 m 0 0 0 (by omega) (by omega) (by omega) (by omega) w
 have hl4 : len4 m 0 0 0 ≤ 64 := by simpa [len4] using hb
 generalize len4 m 0 0 0 = K at *
 replace HL := Lib.hid HL
 have t1 : decide ((N : Int) ≤ 0) = false := by simp; omega
 have t2 : decide ((256 : Int) ≤ (N : Int)) = false := by simp; omega
 have e1 : Int.tdiv (N : Int) 64 = 3 := by rw [Int.tdiv_eq_ediv_of_nonneg (by omega)]; omega
 have e2 : Int.tmod (N : Int) 64 = (d : Int) := by rw [Int.tmod_eq_emod_of_nonneg (by omega)]; omega
 have e3 : IntKind.i64.wrap (64 - (d : Int)) = 64 - (d : Int) := by rw [IntKind.wrap_i64]; omega
 have e4 : (64 - (d : Int)).toNat = 64 - d := by omega
 have e5 : 0 ≤ 64 - (d : Int) := by omega
 have e6 : IntKind.i64.wrap ((K : Int) + (N : Int)) = (K : Int) + (N : Int) := by rw [IntKind.wrap_i64]; omega
 have hv0 : 0 ≤ ((m : Int) / 2 ^ (64 - d)) := Int.ediv_nonneg (by omega) (by exact Int.le_of_lt (Int.pow_pos (by omega)))
 have hv1 : ((m : Int) / 2 ^ (64 - d)) < 18446744073709551616 := Int.lt_of_le_of_lt (Int.ediv_le_self _ (by omega)) (by omega)
 have hor : bits .or .u64 0 ((m : Int) / 2 ^ (64 - d)) = ((m : Int) / 2 ^ (64 - d)) := or_zl _ hv0 hv1
 have hoz : bits .or .u64 0 0 = 0 := by decide
 have hk1 : ¬ N = 0 := by omega
 replace hN := Lib.hid hN
 replace hb := Lib.hid hb
 go_enter Tryd.func94, Tryd.ntmps94
 go_wp2
 go_loopw [9] (fun i wr => ∃ j : Nat, j ≤ 1 ∧ i = .int .i64 ((3 + j : Nat) : Int) ∧ Below w.heap.size w wr ∧ Av wr w.heap.size 139 (uq4 m 0 0 0) ∧ Av wr (w.heap.size + 1) 139 [.int .u64 0, .int .u64 0, .int .u64 0, .int .u64 0] ∧ Av wr (w.heap.size + 1 + 1) 139 (if j = 0 then [.int .u64 0, .int .u64 0, .int .u64 0, .int .u64 0] else if j = 1 then [.int .u64 0, .int .u64 0, .int .u64 0, .int .u64 ((m : Int) * 2 ^ d % 18446744073709551616)] else [.int .u64 0, .int .u64 0, .int .u64 0, .int .u64 ((m : Int) * 2 ^ d % 18446744073709551616)])) (fun i _ => 4 - (intOf i).toNat)
 case atStart =>
  refine ⟨0, by omega, rfl, (((Below.refl _ _).alloc (Nat.le_refl _) _).alloc (by simp) _).alloc (by simp; omega) _, Av.alloc (heap_alloc2_old _ _ _) _, Av.alloc (heap_alloc2_new _ _ _) _, ?_⟩
  have e : ∀ (v : World) (o : Obj), (v.alloc o).heap.size = v.heap.size + 1 := fun v o => by simp
  have := heap_alloc_new ((w.alloc (.cells (uq4 m 0 0 0).toArray 139)).alloc (.cells #[.int .u64 0, .int .u64 0, .int .u64 0, .int .u64 0] 139)) (.cells #[.int .u64 0, .int .u64 0, .int .u64 0, .int .u64 0] 139)
  rw [e, e] at this
  exact this
 case round =>
  obtain ⟨j, hj, rfl, bw, a0, a1, a2⟩ := hrel
  have hj5 : j = 0 ∨ j = 1 := by omega
  rcases hj5 with rfl | rfl
  ·replace a2 : Av wr (w.heap.size + 1 + 1) 139 [.int .u64 0, .int .u64 0, .int .u64 0, .int .u64 0] := a2
   have y := a0.cell 0 _ rfl
   have hlen : 3 < ([.int .u64 0, .int .u64 0, .int .u64 0, .int .u64 0] : List Value).length := by simp
   go_upto_region 11 with ((with_reducible refine wpList_storeI 102 a2 hlen .u64 ((m : Int) * 2 ^ d % 18446744073709551616) ?_ ?_ size_u64 ?_); rfl; rfl; intro w1 c2 f1)
   replace c2 : Av w1 (w.heap.size + 1 + 1) 139 [.int .u64 0, .int .u64 0, .int .u64 0, .int .u64 ((m : Int) * 2 ^ d % 18446744073709551616)] := c2
   have c0 := f1.av a0 (by omega)
   have c1 := f1.av a1 (by omega)
   have b1 := bw.trans (f1.below (B := w.heap.size) (fun k hk => by omega) bw.size)
   go_wp2
   exact ⟨⟨1, by omega, by go_num, b1, c0, c1, c2⟩, by simp [intOf]⟩
  ·replace a2 : Av wr (w.heap.size + 1 + 1) 139 [.int .u64 0, .int .u64 0, .int .u64 0, .int .u64 ((m : Int) * 2 ^ d % 18446744073709551616)] := a2
   go_wp2_with fail
   refine wp_region_relG 7 [] [(6, fun w' => Av w' (w.heap.size + 1) 139 [.int .u64 0, .int .u64 0, .int .u64 0, .int .u64 ((m : Int) * 2 ^ d % 18446744073709551616)])] (RS (w.heap.size + 1) 139 [.int .u64 0, .int .u64 0, .int .u64 0, .int .u64 ((m : Int) * 2 ^ d % 18446744073709551616)]) (by kernel_rfl) (by kernel_rfl) (by kernel_rfl) (by kernel_rfl) (by kernel_rfl) (by kernel_rfl) (fun w => RS.refl w) RS.trans (by intro p hp; cases hp) (by
    intro p hp w w' hR h
    simp only [List.mem_singleton] at hp
    subst hp
    exact hR.2.1 h) ?_
   refine gel (fun w => RS.refl w) rfl (relPure (fun w => RS.refl w) rfl rfl rfl rfl (c := .agg [.int .u64 0, .int .u64 0, .int .u64 0, .int .u64 ((m : Int) * 2 ^ d % 18446744073709551616)].toArray) (fun w hw => exec_loadAv (l := [.int .u64 0, .int .u64 0, .int .u64 0, .int .u64 ((m : Int) * 2 ^ d % 18446744073709551616)]) (hw.1.av a2.drew (by omega)) _ _ rfl rfl _ 4 rfl Tryd.underlying139 rfl (by kernel_rfl)) (by simp only [Zs]; rfl) (gend ?_))
   refine gel (fun w => RS.refl w) rfl (relPure (fun w => RS.refl w) rfl rfl rfl rfl (c := .agg (uq4 m 0 0 0).toArray) (fun w hw => exec_loadAv (l := uq4 m 0 0 0) (hw.1.av a0.drew (by omega)) _ _ rfl rfl _ 4 rfl Tryd.underlying139 rfl (by kernel_rfl)) (by simp only [Zs]; rfl) (gend ?_))
   refine gel (fun w => RS.refl w) rfl (relCall1 rfl rfl rfl rfl (c := .int .i64 (K : Int)) 95 #[.agg (uq4 m 0 0 0).toArray] (fun w => by go_simp) (fun w hw => (HL.out w).mono (by rintro e w' ⟨rfl, hb⟩; exact ⟨rfl, RS.ofBelow hb⟩)) (by simp only [Zs]; rfl) (gend ?_))
   refine gel (fun w => RS.refl w) rfl (relMove (fun w => RS.refl w) rfl rfl rfl rfl _ (.inl rfl) (by conv => lhs; whnf) (by simp only [Zs]; rfl) (gend ?_))
   refine gel (fun w => RS.refl w) rfl (relPure (fun w => RS.refl w) rfl rfl rfl rfl (c := .int .i64 ((K : Int) + (N : Int))) (fun w _ => by go_simp; first | done | rfl | omega) (by simp only [Zs]; rfl) (gend ?_))
   refine gel (fun w => RS.refl w) rfl (relPure (fun w => RS.refl w) rfl rfl rfl rfl (c := .bool (decide ((256 : Int) < (K : Int) + (N : Int)))) (fun w _ => by go_simp; first | done | rfl | omega) (by simp only [Zs]; rfl) (gend ?_))
   refine gStore rfl rfl (fun w hw => exec_storeAv (C := [.int .u64 0, .int .u64 0, .int .u64 0, .int .u64 ((m : Int) * 2 ^ d % 18446744073709551616)]) a1.drew rfl hw _ _ _ rfl rfl rfl 4 rfl (by kernel_rfl) rfl 6) ?_
   refine relEndG fun w5 hw5 hg => ?_
   simp only [List.drop_succ_cons, List.drop_zero]
   have a5 := hg (6, fun w' => Av w' (w.heap.size + 1) 139 [.int .u64 0, .int .u64 0, .int .u64 0, .int .u64 ((m : Int) * 2 ^ d % 18446744073709551616)]) (List.mem_singleton.2 rfl)
   have f5 := Fr.ofDrew hw5.1
   have b5 := bw.trans (f5.below (B := w.heap.size) (fun k hk => by omega) bw.size)
   go_wp2
   refine bodyPost_ret (v := .tuple #[.agg [.int .u64 0, .int .u64 0, .int .u64 0, .int .u64 ((m : Int) * 2 ^ d % 18446744073709551616)].toArray, .bool (decide ((256 : Int) < (K : Int) + (N : Int)))]) ((results_cellU (C := [.int .u64 0, .int .u64 0, .int .u64 0, .int .u64 ((m : Int) * 2 ^ d % 18446744073709551616)]) (by rfl) (by rfl) a5 _ Tryd.underlying139 rfl 4 rfl (by kernel_rfl)).trans (by rfl)) (by rfl) ?_
   refine ⟨?_, b5⟩
   rw [show decide ((256 : Int) < (K : Int) + (N : Int)) = decide (256 < K + N) from decide_eq_decide.2 (by omega)]
set_option maxRecDepth 10000 in
set_option maxHeartbeats 4000000 in
theorem UShl_b (m n : Nat) (hn : 256 ≤ n) (w : World) :
  Calls Tryd.prog 94 #[.agg (uq4 m 0 0 0).toArray, .int .i64 (n : Int)] w fun e w' => e = .returned (.tuple #[.agg (uq4 0 0 0 0).toArray, .bool (!decide (m = 0))]) ∧ Below w.heap.size w w' := by
 obtain ⟨W, hW⟩ : ∃ W, W = (w.alloc (.cells (uq4 m 0 0 0).toArray 139)).alloc (.cells #[.int .u64 0, .int .u64 0, .int .u64 0, .int .u64 0] 139) := ⟨_, rfl⟩
 obtain ⟨H, hH⟩ : ∃ H, H = w.heap.size := ⟨_, rfl⟩
 have bW : Below H w W := by rw [hW, hH]; exact ((Below.refl _ _).alloc (Nat.le_refl _) _).alloc (by simp) _
 have aW : Av W H 139 (uq4 m 0 0 0) := by rw [hW, hH]; exact heap_alloc2_old _ _ _
 have rW : Av W (H + 1) 139 (uq4 0 0 0 0) := by rw [hW, hH]; exact heap_alloc2_new _ _ _
 have t1 : decide ((n : Int) ≤ 0) = false := by simp; omega
 have t2 : decide ((256 : Int) ≤ (n : Int)) = true := by simp; omega
 have N1 := fun x y w => neqUg m 0 0 0 0 0 0 0 x y w
 rw [show decide (m = 0 ∧ 0 = 0 ∧ 0 = 0 ∧ 0 = 0) = decide (m = 0) by simp] at N1
 replace N1 := Lib.hid N1
 have hHs : H ≤ W.heap.size := Nat.le_of_lt aW.lt
 replace hW := Lib.hid hW
 replace hH := Lib.hid hH
 go_enter Tryd.func94, Tryd.ntmps94
 go_upto_region 1 with fail
 rw [← hW.out, ← hH.out]
 go_wp2_with fail
 refine wp_region_relG 5 [] [(4, fun w' => Av w' (H + 1) 139 (uq4 0 0 0 0))] (RS (H + 1) 139 (uq4 0 0 0 0)) (by kernel_rfl) (by kernel_rfl) (by kernel_rfl) (by kernel_rfl) (by kernel_rfl) (by kernel_rfl) (fun w => RS.refl w) RS.trans (by intro p hp; cases hp) (by
  intro p hp w w' hR h
  simp only [List.mem_singleton] at hp
  subst hp
  exact hR.2.1 h) ?_
 refine gel (fun w => RS.refl w) rfl (relPure (fun w => RS.refl w) rfl rfl rfl rfl (c := .agg (uq4 0 0 0 0).toArray) (fun w _ => by go_simp; first | done | rfl) (by simp only [Zs]; rfl) (gend ?_))
 refine gel (fun w => RS.refl w) rfl (relPure (fun w => RS.refl w) rfl rfl rfl rfl (c := .agg (uq4 m 0 0 0).toArray) (fun w hw => exec_loadAv (l := uq4 m 0 0 0) (hw.1.av aW.drew (by omega)) _ _ rfl rfl _ 4 rfl Tryd.underlying139 rfl (by kernel_rfl)) (by simp only [Zs]; rfl) (gend ?_))
 refine gel (fun w => RS.refl w) rfl (relPure (fun w => RS.refl w) rfl rfl rfl rfl (c := .agg (uq4 0 0 0 0).toArray) (fun w _ => by go_simp; first | done | rfl) (by simp only [Zs]; rfl) (gend ?_))
 refine gel (fun w => RS.refl w) rfl (relBin (fun w => RS.refl w) rfl rfl rfl rfl _ _ _ _ _ rfl (by conv => lhs; whnf) (by conv => lhs; whnf) (c := .bool (!decide (m = 0))) (fun w => N1.out _ _ w) (by simp only [Zs]; rfl) (gend ?_))
 refine gStore rfl rfl (fun w hw => exec_storeAv (C := uq4 0 0 0 0) rW.drew rfl hw _ _ _ rfl rfl rfl 4 rfl (by kernel_rfl) rfl 4) ?_
 refine relEndG fun w5 hw5 hg => ?_
 simp only [List.drop_succ_cons, List.drop_zero]
 have a5 := hg (4, fun w' => Av w' (H + 1) 139 (uq4 0 0 0 0)) (List.mem_singleton.2 rfl)
 have f5 := Fr.ofDrew hw5.1
 have b5 := bW.trans (f5.below (B := H) (fun k hk => by omega) hHs)
 go_wp2
 refine bodyPost_ret (v := .tuple #[.agg (uq4 0 0 0 0).toArray, .bool (!decide (m = 0))]) ((results_cellU (C := uq4 0 0 0 0) (by rfl) (by rfl) a5 _ Tryd.underlying139 rfl 4 rfl (by kernel_rfl)).trans (by rfl)) (by rfl) ?_
 exact ⟨rfl, by rw [← hH.out]; exact b5⟩
end Go.Proofs.YtobjgebojhjhnaaDoor
