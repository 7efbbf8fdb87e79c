import Derived.Test.YtobjgebojhjhnaaDoorQr18
import Derived.Test.YtobjgebojhjhnaaDoorQr9
namespace Go.Proofs.YtobjgebojhjhnaaDoor
open Go.RowKit
theorem zeros_Snr : Tryd.zeroCells59 = (snc ⟨List.replicate 32 0, List.replicate 32 0, 0⟩).toArray := by kernel_rfl
theorem infoSnr : (Tryd.prog.info? 59).map (fun i => (i.size, i.bytes)) = some (65, 72) := by kernel_rfl
theorem zeroSnr : (Tryd.prog.info? 59).map (fun i => (i.zero.map (·.cells.size))) = some (some 65) := by kernel_rfl
theorem size_EyeS1 : (Tryd.prog.info? 40).map (·.size) = some 1 := by kernel_rfl
theorem size_SeenLS1 : (Tryd.prog.info? 24).map (·.size) = some 1 := by kernel_rfl
theorem ew_built (As At : Option Addr) (ns cs nt ct : Nat) : Tryd.prog.built 42 [(0, .slice As ns cs), (1, .slice At nt ct)] = some (wtc As At none ns cs nt ct 0 0).toArray := by kernel_rfl
theorem es_places : (match Tryd.prog.underlying 58 with | some (.struct fs) => fs.toList.mapM (fun f => (Tryd.prog.info? f.type).map fun i => (f.offset, i.size)) | _ => none) = some [(0, 32), (32, 32), (64, 1)] := by kernel_rfl
theorem es_zero : (Tryd.prog.info? 58).map (·.zero) = some (some (.agg (snc ⟨List.replicate 32 0, List.replicate 32 0, 0⟩).toArray)) := by kernel_rfl
set_option maxRecDepth 10000 in
theorem es_built (x y : List UInt8) (p : Int) (hx : x.length = 32) (hy : y.length = 32) : Tryd.prog.built 58 [(0, .agg (hcs x)), (1, .agg (hcs y)), (2, .int .i64 p)] = some (snc ⟨x, y, p⟩).toArray := by
 have hp := es_places
 rw [Tryd.underlying58] at hp
 rw [built_struct Tryd.underlying58 es_zero hp]
 have z32 : ((List.replicate 32 (0 : UInt8)).map bv).length = 32 := rfl
 show Instr.fill _ (([] ++ ((List.replicate 32 (0 : UInt8)).map bv ++ ((List.replicate 32 (0 : UInt8)).map bv ++ [Value.int .i64 0]))) : List Value).toArray _ = some (x.map bv ++ (y.map bv ++ [Value.int .i64 p])).toArray
 generalize (List.replicate 32 (0 : UInt8)).map bv = Z at *
 refine Eq.trans (fill_step [] Z (x.map bv) _ (off := 0) (size := 32) rfl rfl (by simpa using hx) rfl z32) ?_
 rw [show ([] ++ (x.map bv ++ (Z ++ [Value.int .i64 0])) : List Value) = x.map bv ++ (Z ++ [Value.int .i64 0]) from rfl]
 refine Eq.trans (fill_step (x.map bv) Z (y.map bv) _ (off := 32) (size := 32) rfl rfl (by simpa using hy) (by simpa using hx) z32) ?_
 rw [show (x.map bv ++ (y.map bv ++ [Value.int .i64 0]) : List Value) = (x.map bv ++ y.map bv) ++ ([Value.int .i64 0] ++ []) by simp]
 refine Eq.trans (fill_step (x.map bv ++ y.map bv) [Value.int .i64 0] [Value.int .i64 p] _ (off := 64) (size := 1) rfl rfl rfl (by simp [hx, hy]) rfl) ?_
 simp [Instr.fill]
theorem rw_built (As At : Option Addr) (ns cs nt ct : Nat) : Tryd.prog.built 26 [(0, .slice As ns cs), (1, .slice At nt ct)] = some (wtc As At none ns cs nt ct 0 0).toArray := by kernel_rfl
theorem rs_places : (match Tryd.prog.underlying 59 with | some (.struct fs) => fs.toList.mapM (fun f => (Tryd.prog.info? f.type).map fun i => (f.offset, i.size)) | _ => none) = some [(0, 32), (32, 32), (64, 1)] := by kernel_rfl
theorem rs_zero : (Tryd.prog.info? 59).map (·.zero) = some (some (.agg (snc ⟨List.replicate 32 0, List.replicate 32 0, 0⟩).toArray)) := by kernel_rfl
set_option maxRecDepth 10000 in
theorem rs_built (x y : List UInt8) (p : Int) (hx : x.length = 32) (hy : y.length = 32) : Tryd.prog.built 59 [(0, .agg (hcs x)), (1, .agg (hcs y)), (2, .int .i64 p)] = some (snc ⟨x, y, p⟩).toArray := by
 have hp := rs_places
 rw [Tryd.underlying59] at hp
 rw [built_struct Tryd.underlying59 rs_zero hp]
 have z32 : ((List.replicate 32 (0 : UInt8)).map bv).length = 32 := rfl
 show Instr.fill _ (([] ++ ((List.replicate 32 (0 : UInt8)).map bv ++ ((List.replicate 32 (0 : UInt8)).map bv ++ [Value.int .i64 0]))) : List Value).toArray _ = some (x.map bv ++ (y.map bv ++ [Value.int .i64 p])).toArray
 generalize (List.replicate 32 (0 : UInt8)).map bv = Z at *
 refine Eq.trans (fill_step [] Z (x.map bv) _ (off := 0) (size := 32) rfl rfl (by simpa using hx) rfl z32) ?_
 rw [show ([] ++ (x.map bv ++ (Z ++ [Value.int .i64 0])) : List Value) = x.map bv ++ (Z ++ [Value.int .i64 0]) from rfl]
 refine Eq.trans (fill_step (x.map bv) Z (y.map bv) _ (off := 32) (size := 32) rfl rfl (by simpa using hy) (by simpa using hx) z32) ?_
 rw [show (x.map bv ++ (y.map bv ++ [Value.int .i64 0]) : List Value) = (x.map bv ++ y.map bv) ++ ([Value.int .i64 0] ++ []) by simp]
 refine Eq.trans (fill_step (x.map bv ++ y.map bv) [Value.int .i64 0] [Value.int .i64 p] _ (off := 64) (size := 1) rfl rfl rfl (by simp [hx, hy]) rfl) ?_
 simp [Instr.fill]
set_option maxRecDepth 10000 in
set_option maxHeartbeats 4000000 in
theorem Eye (As At An : Option Addr) (ns cs nt ct nn cn : Nat) (N : List Sn) (hN : N.length = nn) (hnn : nn ≤ 100000) (w : World) (rN : RdSns w An N) :
  Calls Tryd.prog 13 #[.agg (wtc As At An ns cs nt ct nn cn).toArray] w fun e w' => ∃ A' c', e = .returned (.agg (wtc As At A' ns cs nt ct nn c').toArray) ∧ RdSns w' A' N ∧ Below w.heap.size w w' := by
 have hzs := zeros_Snr
 obtain ⟨ys, hyy⟩ : ∃ ys, ys = snc ⟨List.replicate 32 0, List.replicate 32 0, 0⟩ := ⟨_, rfl⟩
 have hyl : ys.length = 65 := by rw [hyy]; rfl
 rw [← hyy] at hzs
 clear hyy
 obtain ⟨W, hW⟩ : ∃ W, W = (w.alloc (.cells (wtc As At An ns cs nt ct nn cn).toArray 26)).alloc (.cells #[.slice none 0 0, .slice none 0 0, .slice none 0 0] 42) := ⟨_, rfl⟩
 obtain ⟨H, hH⟩ : ∃ H, H = w.heap.size := ⟨_, rfl⟩
 have aW : Av W H 26 (wtc As At An ns cs nt ct nn cn) := by rw [hW, hH]; exact heap_alloc2_old _ _ _
 have zW : Av W (H + 1) 42 [.slice none 0 0, .slice none 0 0, .slice none 0 0] := by rw [hW, hH]; exact heap_alloc2_new _ _ _
 have bW : Below w.heap.size w W := by rw [hW]; exact ((Below.refl _ _).alloc (Nat.le_refl _) _).alloc (by simp) _
 have sz : W.heap.size = H + 2 := by rw [hW, hH]; simp
 have hHw : w.heap.size ≤ H := by rw [hH]; exact Nat.le_refl _
 have c0 := aW.cell 0 (.slice As ns cs) rfl
 have c1 := aW.cell 1 (.slice At nt ct) rfl
 have hbt := Lib.hid (ew_built As At ns cs nt ct)
 obtain ⟨O, hO⟩ : ∃ O, O = wtc As At none ns cs nt ct 0 0 := ⟨_, rfl⟩
 have lO : O.length = 3 := by rw [hO]; rfl
 have oO : O.all (·.oneCell') = true := by rw [hO]; rfl
 rw [← hO] at hbt
 replace hW := Lib.hid hW
 replace hH := Lib.hid hH
 replace sz := Lib.hid sz
 replace hyl := Lib.hid hyl
 replace hN := Lib.hid hN
 replace hO := Lib.hid hO
 replace lO := Lib.hid lO
 replace oO := Lib.hid oO
 go_enter Tryd.func13, Tryd.ntmps13
 go_upto_region 1 with fail
 rw [← hW.out, ← hH.out]
 go_upto_region 2 with (first
  | ((with_reducible refine wpList_buildE (.agg O.toArray) ?_ ?_); exact exec_build (cs := O) (ops := [(0, .tmp 7), (1, .tmp 9)]) rfl hbt.out)
  | ((with_reducible refine wpList_storeF 42 ((Below.refl W.heap.size W).alloc (Nat.le_refl _) _) (heap_alloc_new _ _) (Nat.le_refl _) O ?_ ?_ 3 lO.out ?_ ?_ ?_ ?_); rfl; rfl; kernel_rfl; rfl; exact oO.out; intro w2 o2 b2 k2 z2; clear k2))
 rw [sz.out] at o2 ⊢
 have B2 := bW.trans (b2.mono bW.size)
 have a2 := aW.below b2
 have q2 := zW.below b2
 rw [hO.out] at o2
 have hw2 : H + 3 ≤ w2.heap.size := by have := o2.lt; omega
 obtain ⟨B, hB⟩ : ∃ B, B = w2.heap.size := ⟨_, rfl⟩
 have hBl : B ≤ w2.heap.size := by rw [hB]; exact Nat.le_refl _
 rw [← hB] at hw2
 replace hB := Lib.hid hB
 clear b2 z2 c0 c1
 go_wp2
 go_loopw [4] (fun i wr => ∃ (j : Nat) (A : Option Addr) (c : Nat), j ≤ nn ∧ i = .int .i64 (j : Int) ∧ Below w.heap.size w wr ∧ B ≤ wr.heap.size ∧ Av wr H 26 (wtc As At An ns cs nt ct nn cn) ∧ Av wr (H + 1) 42 [.slice none 0 0, .slice none 0 0, .slice none 0 0] ∧ Av wr (H + 2) 42 (wtc As At A ns cs nt ct j c) ∧ wr.ownsRow B 58 65 (.slice A j c) j (snl (N.take j))) (fun i _ => nn - (intOf i).toNat)
 case atStart => exact ⟨0, none, 0, by omega, rfl, B2, hBl, a2, q2, o2, World.ownsRow_nil _ _ _ _⟩
 case round =>
  clear a2 q2 o2
  obtain ⟨j, A, c, hj, rfl, bw, hBr, aH, qH, oH, ow⟩ := hrel
  have d2 := aH.cell 2 (.slice An nn cn) rfl
  by_cases hlt : j < nn
  ·have t2 : decide ((j : Int) < (nn : Int)) = true := by simp; omega
   obtain ⟨s, hs⟩ : ∃ s, N[j]? = some s := ⟨_, List.getElem?_eq_getElem (by rw [hN.out]; exact hlt)⟩
   obtain ⟨b, off, rfl⟩ := rN.adr (by rw [hN.out]; omega)
   obtain ⟨rs, sok⟩ := (rN.below bw).nth j s hs
   have s65 := Lib.hid (snc_length sok)
   have sone := Lib.hid (List.all_eq_true.2 (snc_one s))
   have sone' := Lib.hid (snc_one s)
   have s65l := Lib.hid (show (snc s).length = 1 * 65 by rw [snc_length sok])
   have hbs := Lib.hid (es_built s.id s.blk s.pos sok.1 sok.2)
   have k1 := Lib.hid (show (s.id.map bv).length = 32 by rw [List.length_map, sok.1])
   have k2 := Lib.hid (show (s.blk.map bv).length = 32 by rw [List.length_map, sok.2])
   have c64 := Lib.hid (snc_pos sok)
   have el : Hid (snl (N.take j) ++ snc s = snl (N.take (j + 1))) := Lib.hid (by
    rw [List.take_add_one, hs]
    simp [snl])
   have m0 : 0 ≤ (j : Int) := by omega
   have m1 : (j : Int) < (nn : Int) := by omega
   replace hs := Lib.hid hs
   replace ow := Lib.hid ow
   go_upto_region 6 with (first
    | ((with_reducible refine wpList_loadMF 59 (snc s) rs ?_ _ Tryd.underlying59 ?_ ?_ ?_); rfl; rfl; (rw [s65.out]; kernel_rfl))
    | ((with_reducible refine wpList_storeF 59 ((Below.refl wr.heap.size wr).alloc (Nat.le_refl _) _) (heap_alloc_new _ _) (Nat.le_refl _) (snc s) ?_ ?_ 65 ?_ ?_ ?_ ?_ ?_); rfl; rfl; exact s65.out; kernel_rfl; (rw [List.size_toArray]; exact hyl.out); exact sone.out; intro w3 a3 b3 k3 z3; clear k3))
   obtain ⟨G, hG⟩ : ∃ G, G = wr.heap.size := ⟨_, rfl⟩
   rw [← hG] at a3 ⊢
   have B3 := bw.trans (b3.mono bw.size)
   have ri : w3.rangeAt G 0 (s.id.map bv) := rg_sn_id a3.range0
   have rb : w3.rangeAt G 32 (s.blk.map bv) := by have := rg_sn_blk sok a3.range0; rwa [Nat.zero_add] at this
   have cp := a3.cell 64 _ c64.out
   have oH3 := oH.below b3
   have aH3 := aH.below b3
   have qH3 := qH.below b3
   have e2 := oH3.cell 2 (.slice A j c) rfl
   have ow3 := own_below ow.out b3
   have hB3 : B ≤ w3.heap.size := Nat.le_trans hBr b3.size
   replace hG := Lib.hid hG
   replace z3 := Lib.hid z3
   replace ow3 := Lib.hid ow3
   clear d2 ow
   go_upto_region 4 with (first
    | ((with_reducible refine wpList_loadMF 30 (s.id.map bv) ri ?_ _ Tryd.underlying30 ?_ ?_ ?_); rfl; rfl; (rw [k1.out]; kernel_rfl))
    | ((with_reducible refine wpList_loadMF 30 (s.blk.map bv) rb ?_ _ Tryd.underlying30 ?_ ?_ ?_); rfl; rfl; (rw [k2.out]; kernel_rfl))
    | ((with_reducible refine wpList_buildE (.agg (snc s).toArray) ?_ ?_); exact exec_build (cs := snc s) (ops := [(0, .tmp 26), (1, .tmp 28), (2, .tmp 30)]) rfl hbs.out)
    | ((with_reducible refine wpList_build1 Tryd.underlying40 infoSn zeroSn (by decide) (by decide) (snc s) s65.out rfl ?_))
    | (at_builtin; refine wpList_appE Tryd.underlying40 infoSn zeroSn (by decide) (own_below ow3.out ((Below.refl w3.heap.size w3).alloc (Nat.le_refl _) _)) (by simp; omega) (snc s) 1 1 (Av.rd (t := 58) (heap_alloc_new _ _)) s65l.out sone'.out (by omega) (by omega) rfl (.tmp 24) (.tmp 32) rfl rfl rfl ?_; intro v4 w4 o4 g4 _; have bE := own_app ((Below.refl B w3).alloc hB3 (.cells (snc s).toArray 58)) (own_below ow3.out ((Below.refl w3.heap.size w3).alloc (Nat.le_refl _) _)) g4 (by simp; omega); obtain ⟨A4, c4, rfl, hc4, _⟩ := own_form o4; have oH4 := oH3.same (bE.block (H + 2) (by omega)); have aH4 := aH3.same (bE.block H (by omega)); have qH4 := qH3.same (bE.block (H + 1) (by omega)))
    | (refine wpList_storeS rfl 40 _ _ rfl rfl oH4 (show 2 < 3 by decide) A4 (j + 1) c4 rfl size_EyeS1 ?_))
   have S5 := oH4.set 2 (.slice A4 (j + 1) c4)
   have aH5 := aH4.other ⟨H + 2, 2, none⟩ (.slice A4 (j + 1) c4) (by show H ≠ H + 2; omega)
   have qH5 := qH4.other ⟨H + 2, 2, none⟩ (.slice A4 (j + 1) c4) (by show H + 1 ≠ H + 2; omega)
   have b5 := (B3.trans (bE.mono (by omega))).setCell (p := ⟨H + 2, 2, none⟩) (show w.heap.size ≤ H + 2 by omega) (.slice A4 (j + 1) c4)
   have own5 := own_fr o4 (Fr.setCell w4 ⟨H + 2, 2, none⟩ (.slice A4 (j + 1) c4)) (fun k hk e => by
    have := (World.ownsRow.lt o4 k hk).1
    simp only at e
    omega)
   have hs5 : B ≤ (w4.setCell ⟨H + 2, 2, none⟩ (.slice A4 (j + 1) c4)).heap.size := by
    have := bE.size
    simp only [World.setCell, Array.size_modify] at *
    omega
   obtain ⟨wX, hwX⟩ : ∃ wX, wX = w4.setCell ⟨H + 2, 2, none⟩ (.slice A4 (j + 1) c4) := ⟨_, rfl⟩
   rw [← hwX] at S5 aH5 qH5 b5 own5 hs5 ⊢
   rw [el.out] at own5
   have oX : Av wX (H + 2) 42 (wtc As At A4 ns cs nt ct (j + 1) c4) := S5
   replace hwX := Lib.hid hwX
   clear S5 oH4 aH4 qH4 o4 g4
   go_wp2
   refine ⟨⟨j + 1, A4, c4, by omega, by go_num, b5, hs5, aH5, qH5, oX, own5⟩, ?_⟩
   simp [intOf]
   omega
  ·obtain rfl : j = nn := by omega
   have t2 : decide ((j : Int) < (j : Int)) = false := by simp
   have e5 : N.take j = N := List.take_of_length_le (by rw [hN.out]; exact Nat.le_refl _)
   rw [e5] at ow
   have wone := wtc_one As At A ns cs nt ct j c
   have l3 : (wtc As At A ns cs nt ct j c).length = 3 := rfl
   have hH1 : w.heap.size ≤ H + 1 := by omega
   replace e5 := Lib.hid e5
   go_wp2_with (first
    | ((with_reducible refine wpList_loadF 42 oH ?_ _ 3 l3 Tryd.underlying42 ?_ ?_ ?_); rfl; rfl; kernel_rfl)
    | ((with_reducible refine wpList_storeFA 42 bw qH hH1 (wtc As At A ns cs nt ct j c) ?_ ?_ 3 l3 ?_ ?_ ?_ ?_); rfl; rfl; kernel_rfl; rfl; exact wone; intro wY aY bY kY zY))
   have own6 := own_fr ow (S := fun k => k = H + 1) ⟨bY.os.trans bw.os.symm, bY.tape.trans bw.tape.symm, bY.output.trans bw.output.symm, by rw [zY]; exact Nat.le_refl _, fun k _ hk => kY k hk⟩ (fun k hk e => by
    have := (World.ownsRow.lt ow k hk).1
    omega)
   refine bodyPost_ret (results_cell_row rfl _ _ (H + 1) _ _ (0, 0) _ (by rfl) aY Tryd.underlying42 rfl (by rw [List.size_toArray, l3]; kernel_rfl)) rfl ?_
   exact ⟨A, c, rfl, ⟨own_rd own6, rN.2⟩, bY⟩
set_option maxRecDepth 10000 in
set_option maxHeartbeats 4000000 in
theorem SeenL (As At An : Option Addr) (ns cs nt ct nn cn : Nat) (N : List Sn) (hN : N.length = nn) (hnn : nn ≤ 100000) (w : World) (rN : RdSns w An N) :
  Calls Tryd.prog 25 #[.agg (wtc As At An ns cs nt ct nn cn).toArray] w fun e w' => ∃ A' c', e = .returned (.agg (wtc As At A' ns cs nt ct nn c').toArray) ∧ RdSns w' A' N ∧ Below w.heap.size w w' := by
 have hzs := zeros_Sn
 obtain ⟨ys, hyy⟩ : ∃ ys, ys = snc ⟨List.replicate 32 0, List.replicate 32 0, 0⟩ := ⟨_, rfl⟩
 have hyl : ys.length = 65 := by rw [hyy]; rfl
 rw [← hyy] at hzs
 clear hyy
 obtain ⟨W, hW⟩ : ∃ W, W = (w.alloc (.cells (wtc As At An ns cs nt ct nn cn).toArray 42)).alloc (.cells #[.slice none 0 0, .slice none 0 0, .slice none 0 0] 26) := ⟨_, rfl⟩
 obtain ⟨H, hH⟩ : ∃ H, H = w.heap.size := ⟨_, rfl⟩
 have aW : Av W H 42 (wtc As At An ns cs nt ct nn cn) := by rw [hW, hH]; exact heap_alloc2_old _ _ _
 have zW : Av W (H + 1) 26 [.slice none 0 0, .slice none 0 0, .slice none 0 0] := by rw [hW, hH]; exact heap_alloc2_new _ _ _
 have bW : Below w.heap.size w W := by rw [hW]; exact ((Below.refl _ _).alloc (Nat.le_refl _) _).alloc (by simp) _
 have sz : W.heap.size = H + 2 := by rw [hW, hH]; simp
 have hHw : w.heap.size ≤ H := by rw [hH]; exact Nat.le_refl _
 have c0 := aW.cell 0 (.slice As ns cs) rfl
 have c1 := aW.cell 1 (.slice At nt ct) rfl
 have hbt := Lib.hid (rw_built As At ns cs nt ct)
 obtain ⟨O, hO⟩ : ∃ O, O = wtc As At none ns cs nt ct 0 0 := ⟨_, rfl⟩
 have lO : O.length = 3 := by rw [hO]; rfl
 have oO : O.all (·.oneCell') = true := by rw [hO]; rfl
 rw [← hO] at hbt
 replace hW := Lib.hid hW
 replace hH := Lib.hid hH
 replace sz := Lib.hid sz
 replace hyl := Lib.hid hyl
 replace hN := Lib.hid hN
 replace hO := Lib.hid hO
 replace lO := Lib.hid lO
 replace oO := Lib.hid oO
 go_enter Tryd.func25, Tryd.ntmps25
 go_upto_region 1 with fail
 rw [← hW.out, ← hH.out]
 go_upto_region 2 with (first
  | ((with_reducible refine wpList_buildE (.agg O.toArray) ?_ ?_); exact exec_build (cs := O) (ops := [(0, .tmp 7), (1, .tmp 9)]) rfl hbt.out)
  | ((with_reducible refine wpList_storeF 26 ((Below.refl W.heap.size W).alloc (Nat.le_refl _) _) (heap_alloc_new _ _) (Nat.le_refl _) O ?_ ?_ 3 lO.out ?_ ?_ ?_ ?_); rfl; rfl; kernel_rfl; rfl; exact oO.out; intro w2 o2 b2 k2 z2; clear k2))
 rw [sz.out] at o2 ⊢
 have B2 := bW.trans (b2.mono bW.size)
 have a2 := aW.below b2
 have q2 := zW.below b2
 rw [hO.out] at o2
 have hw2 : H + 3 ≤ w2.heap.size := by have := o2.lt; omega
 obtain ⟨B, hB⟩ : ∃ B, B = w2.heap.size := ⟨_, rfl⟩
 have hBl : B ≤ w2.heap.size := by rw [hB]; exact Nat.le_refl _
 rw [← hB] at hw2
 replace hB := Lib.hid hB
 clear b2 z2 c0 c1
 go_wp2
 go_loopw [4] (fun i wr => ∃ (j : Nat) (A : Option Addr) (c : Nat), j ≤ nn ∧ i = .int .i64 (j : Int) ∧ Below w.heap.size w wr ∧ B ≤ wr.heap.size ∧ Av wr H 42 (wtc As At An ns cs nt ct nn cn) ∧ Av wr (H + 1) 26 [.slice none 0 0, .slice none 0 0, .slice none 0 0] ∧ Av wr (H + 2) 26 (wtc As At A ns cs nt ct j c) ∧ wr.ownsRow B 59 65 (.slice A j c) j (snl (N.take j))) (fun i _ => nn - (intOf i).toNat)
 case atStart => exact ⟨0, none, 0, by omega, rfl, B2, hBl, a2, q2, o2, World.ownsRow_nil _ _ _ _⟩
 case round =>
  clear a2 q2 o2
  obtain ⟨j, A, c, hj, rfl, bw, hBr, aH, qH, oH, ow⟩ := hrel
  have d2 := aH.cell 2 (.slice An nn cn) rfl
  by_cases hlt : j < nn
  ·have t2 : decide ((j : Int) < (nn : Int)) = true := by simp; omega
   obtain ⟨s, hs⟩ : ∃ s, N[j]? = some s := ⟨_, List.getElem?_eq_getElem (by rw [hN.out]; exact hlt)⟩
   obtain ⟨b, off, rfl⟩ := rN.adr (by rw [hN.out]; omega)
   obtain ⟨rs, sok⟩ := (rN.below bw).nth j s hs
   have s65 := Lib.hid (snc_length sok)
   have sone := Lib.hid (List.all_eq_true.2 (snc_one s))
   have sone' := Lib.hid (snc_one s)
   have s65l := Lib.hid (show (snc s).length = 1 * 65 by rw [snc_length sok])
   have hbs := Lib.hid (rs_built s.id s.blk s.pos sok.1 sok.2)
   have k1 := Lib.hid (show (s.id.map bv).length = 32 by rw [List.length_map, sok.1])
   have k2 := Lib.hid (show (s.blk.map bv).length = 32 by rw [List.length_map, sok.2])
   have c64 := Lib.hid (snc_pos sok)
   have el : Hid (snl (N.take j) ++ snc s = snl (N.take (j + 1))) := Lib.hid (by
    rw [List.take_add_one, hs]
    simp [snl])
   have m0 : 0 ≤ (j : Int) := by omega
   have m1 : (j : Int) < (nn : Int) := by omega
   replace hs := Lib.hid hs
   replace ow := Lib.hid ow
   go_upto_region 6 with (first
    | ((with_reducible refine wpList_loadMF 58 (snc s) rs ?_ _ Tryd.underlying58 ?_ ?_ ?_); rfl; rfl; (rw [s65.out]; kernel_rfl))
    | ((with_reducible refine wpList_storeF 58 ((Below.refl wr.heap.size wr).alloc (Nat.le_refl _) _) (heap_alloc_new _ _) (Nat.le_refl _) (snc s) ?_ ?_ 65 ?_ ?_ ?_ ?_ ?_); rfl; rfl; exact s65.out; kernel_rfl; (rw [List.size_toArray]; exact hyl.out); exact sone.out; intro w3 a3 b3 k3 z3; clear k3))
   obtain ⟨G, hG⟩ : ∃ G, G = wr.heap.size := ⟨_, rfl⟩
   rw [← hG] at a3 ⊢
   have B3 := bw.trans (b3.mono bw.size)
   have ri : w3.rangeAt G 0 (s.id.map bv) := rg_sn_id a3.range0
   have rb : w3.rangeAt G 32 (s.blk.map bv) := by have := rg_sn_blk sok a3.range0; rwa [Nat.zero_add] at this
   have cp := a3.cell 64 _ c64.out
   have oH3 := oH.below b3
   have aH3 := aH.below b3
   have qH3 := qH.below b3
   have e2 := oH3.cell 2 (.slice A j c) rfl
   have ow3 := own_below ow.out b3
   have hB3 : B ≤ w3.heap.size := Nat.le_trans hBr b3.size
   replace hG := Lib.hid hG
   replace z3 := Lib.hid z3
   replace ow3 := Lib.hid ow3
   clear d2 ow
   go_upto_region 4 with (first
    | ((with_reducible refine wpList_loadMF 30 (s.id.map bv) ri ?_ _ Tryd.underlying30 ?_ ?_ ?_); rfl; rfl; (rw [k1.out]; kernel_rfl))
    | ((with_reducible refine wpList_loadMF 30 (s.blk.map bv) rb ?_ _ Tryd.underlying30 ?_ ?_ ?_); rfl; rfl; (rw [k2.out]; kernel_rfl))
    | ((with_reducible refine wpList_buildE (.agg (snc s).toArray) ?_ ?_); exact exec_build (cs := snc s) (ops := [(0, .tmp 26), (1, .tmp 28), (2, .tmp 30)]) rfl hbs.out)
    | ((with_reducible refine wpList_build1 Tryd.underlying24 infoSnr zeroSnr (by decide) (by decide) (snc s) s65.out rfl ?_))
    | (at_builtin; refine wpList_appE Tryd.underlying24 infoSnr zeroSnr (by decide) (own_below ow3.out ((Below.refl w3.heap.size w3).alloc (Nat.le_refl _) _)) (by simp; omega) (snc s) 1 1 (Av.rd (t := 59) (heap_alloc_new _ _)) s65l.out sone'.out (by omega) (by omega) rfl (.tmp 24) (.tmp 32) rfl rfl rfl ?_; intro v4 w4 o4 g4 _; have bE := own_app ((Below.refl B w3).alloc hB3 (.cells (snc s).toArray 59)) (own_below ow3.out ((Below.refl w3.heap.size w3).alloc (Nat.le_refl _) _)) g4 (by simp; omega); obtain ⟨A4, c4, rfl, hc4, _⟩ := own_form o4; have oH4 := oH3.same (bE.block (H + 2) (by omega)); have aH4 := aH3.same (bE.block H (by omega)); have qH4 := qH3.same (bE.block (H + 1) (by omega)))
    | (refine wpList_storeS rfl 24 _ _ rfl rfl oH4 (show 2 < 3 by decide) A4 (j + 1) c4 rfl size_SeenLS1 ?_))
   have S5 := oH4.set 2 (.slice A4 (j + 1) c4)
   have aH5 := aH4.other ⟨H + 2, 2, none⟩ (.slice A4 (j + 1) c4) (by show H ≠ H + 2; omega)
   have qH5 := qH4.other ⟨H + 2, 2, none⟩ (.slice A4 (j + 1) c4) (by show H + 1 ≠ H + 2; omega)
   have b5 := (B3.trans (bE.mono (by omega))).setCell (p := ⟨H + 2, 2, none⟩) (show w.heap.size ≤ H + 2 by omega) (.slice A4 (j + 1) c4)
   have own5 := own_fr o4 (Fr.setCell w4 ⟨H + 2, 2, none⟩ (.slice A4 (j + 1) c4)) (fun k hk e => by
    have := (World.ownsRow.lt o4 k hk).1
    simp only at e
    omega)
   have hs5 : B ≤ (w4.setCell ⟨H + 2, 2, none⟩ (.slice A4 (j + 1) c4)).heap.size := by
    have := bE.size
    simp only [World.setCell, Array.size_modify] at *
    omega
   obtain ⟨wX, hwX⟩ : ∃ wX, wX = w4.setCell ⟨H + 2, 2, none⟩ (.slice A4 (j + 1) c4) := ⟨_, rfl⟩
   rw [← hwX] at S5 aH5 qH5 b5 own5 hs5 ⊢
   rw [el.out] at own5
   have oX : Av wX (H + 2) 26 (wtc As At A4 ns cs nt ct (j + 1) c4) := S5
   replace hwX := Lib.hid hwX
   clear S5 oH4 aH4 qH4 o4 g4
   go_wp2
   refine ⟨⟨j + 1, A4, c4, by omega, by go_num, b5, hs5, aH5, qH5, oX, own5⟩, ?_⟩
   simp [intOf]
   omega
  ·obtain rfl : j = nn := by omega
   have t2 : decide ((j : Int) < (j : Int)) = false := by simp
   have e5 : N.take j = N := List.take_of_length_le (by rw [hN.out]; exact Nat.le_refl _)
   rw [e5] at ow
   have wone := wtc_one As At A ns cs nt ct j c
   have l3 : (wtc As At A ns cs nt ct j c).length = 3 := rfl
   have hH1 : w.heap.size ≤ H + 1 := by omega
   replace e5 := Lib.hid e5
   go_wp2_with (first
    | ((with_reducible refine wpList_loadF 26 oH ?_ _ 3 l3 Tryd.underlying26 ?_ ?_ ?_); rfl; rfl; kernel_rfl)
    | ((with_reducible refine wpList_storeFA 26 bw qH hH1 (wtc As At A ns cs nt ct j c) ?_ ?_ 3 l3 ?_ ?_ ?_ ?_); rfl; rfl; kernel_rfl; rfl; exact wone; intro wY aY bY kY zY))
   have own6 := own_fr ow (S := fun k => k = H + 1) ⟨bY.os.trans bw.os.symm, bY.tape.trans bw.tape.symm, bY.output.trans bw.output.symm, by rw [zY]; exact Nat.le_refl _, fun k _ hk => kY k hk⟩ (fun k hk e => by
    have := (World.ownsRow.lt ow k hk).1
    omega)
   refine bodyPost_ret (results_cell_row rfl _ _ (H + 1) _ _ (0, 0) _ (by rfl) aY Tryd.underlying26 rfl (by rw [List.size_toArray, l3]; kernel_rfl)) rfl ?_
   exact ⟨A, c, rfl, ⟨own_rd own6, rN.2⟩, bY⟩
end Go.Proofs.YtobjgebojhjhnaaDoor
namespace Go.Proofs.YtobjgebojhjhnaaDoor
open Go.RowKit
theorem bl_places : (match Tryd.prog.underlying 47 with | some (.struct fs) => fs.toList.mapM (fun f => (Tryd.prog.info? f.type).map fun i => (f.offset, i.size)) | _ => none) = some [(0, 68), (68, 1), (69, 1), (70, 1)] := by kernel_rfl
theorem bl_zero : (Tryd.prog.info? 47).map (·.zero) = some (some (.agg (blc zeroNd.head 0 none 0 0 none 0 0).toArray)) := by kernel_rfl
theorem zeros_Bl : Tryd.zeroCells47 = (blc zeroNd.head 0 none 0 0 none 0 0).toArray := by kernel_rfl
theorem zeroHead_len : (hdc zeroNd.head).length = 68 := rfl
set_option maxRecDepth 10000 in
theorem bl_built (h : Hd) (k : h.ok) (tot : Nat) (Ah : Option Addr) (nh ch : Nat) (Af : Option Addr) (nf cf : Nat) : Tryd.prog.built 47 [(0, .agg (hdc h).toArray), (1, .int .u32 (tot : Int)), (2, .slice Ah nh ch), (3, .slice Af nf cf)] = some (blc h tot Ah nh ch Af nf cf).toArray := by
 have hp := bl_places
 rw [Tryd.underlying47] at hp
 rw [built_struct Tryd.underlying47 bl_zero hp]
 have h68 := hdc_length k
 have z68 := zeroHead_len
 show Instr.fill _ (([] ++ (hdc zeroNd.head ++ [Value.int .u32 0, Value.slice none 0 0, Value.slice none 0 0])) : List Value).toArray _ = some (hdc h ++ [Value.int .u32 (tot : Int), Value.slice Ah nh ch, Value.slice Af nf cf]).toArray
 generalize hdc zeroNd.head = Z at *
 refine Eq.trans (fill_step [] Z (hdc h) _ (off := 0) (size := 68) rfl rfl h68 rfl z68) ?_
 rw [show ([] ++ (hdc h ++ [Value.int .u32 0, Value.slice none 0 0, Value.slice none 0 0]) : List Value) = hdc h ++ ([Value.int .u32 0] ++ [Value.slice none 0 0, Value.slice none 0 0]) from rfl]
 refine Eq.trans (fill_step (hdc h) [Value.int .u32 0] [Value.int .u32 (tot : Int)] _ (off := 68) (size := 1) rfl rfl rfl h68 rfl) ?_
 rw [show (hdc h ++ ([Value.int .u32 (tot : Int)] ++ [Value.slice none 0 0, Value.slice none 0 0]) : List Value) = (hdc h ++ [Value.int .u32 (tot : Int)]) ++ ([Value.slice none 0 0] ++ [Value.slice none 0 0]) by simp]
 refine Eq.trans (fill_step (hdc h ++ [Value.int .u32 (tot : Int)]) [Value.slice none 0 0] [Value.slice Ah nh ch] _ (off := 69) (size := 1) rfl rfl rfl (by simp [h68]) rfl) ?_
 rw [show ((hdc h ++ [Value.int .u32 (tot : Int)]) ++ ([Value.slice Ah nh ch] ++ [Value.slice none 0 0]) : List Value) = (hdc h ++ [Value.int .u32 (tot : Int), Value.slice Ah nh ch]) ++ ([Value.slice none 0 0] ++ []) by simp]
 refine Eq.trans (fill_step (hdc h ++ [Value.int .u32 (tot : Int), Value.slice Ah nh ch]) [Value.slice none 0 0] [Value.slice Af nf cf] _ (off := 70) (size := 1) rfl rfl rfl (by simp [h68]) rfl) ?_
 simp [Instr.fill]
set_option maxRecDepth 10000 in
set_option maxHeartbeats 2000000 in
theorem BlockL (h : Hd) (k : h.ok) (tot : Nat) (Ah : Option Addr) (nh ch : Nat) (Af : Option Addr) (nf cf : Nat) (w : World) :
  Calls Tryd.prog 14 #[.agg (blc h tot Ah nh ch Af nf cf).toArray] w fun e w' => e = .returned (.agg (blc h tot Ah nh ch Af nf cf).toArray) ∧ Below w.heap.size w w' := by
 have hzb := zeros_Bl
 obtain ⟨zs, hzz⟩ : ∃ zs, zs = blc zeroNd.head 0 none 0 0 none 0 0 := ⟨_, rfl⟩
 have hzl : zs.length = 71 := by rw [hzz]; rfl
 rw [← hzz] at hzb
 clear hzz
 obtain ⟨O, hO⟩ : ∃ O, O = blc h tot Ah nh ch Af nf cf := ⟨_, rfl⟩
 obtain ⟨d68, d69, d70⟩ := blc_at (h := h) (tot := tot) (Ah := Ah) (nh := nh) (ch := ch) (Af := Af) (nf := nf) (cf := cf) k
 have lO : O.length = 71 := by rw [hO]; exact blc_length k
 have oO : O.all (·.oneCell') = true := by rw [hO]; exact List.all_eq_true.2 blc_one
 have hbt := Lib.hid (bl_built h k tot Ah nh ch Af nf cf)
 obtain ⟨W, hW⟩ : ∃ W, W = (w.alloc (.cells O.toArray 35)).alloc (.cells zs.toArray 47) := ⟨_, rfl⟩
 obtain ⟨H, hH⟩ : ∃ H, H = w.heap.size := ⟨_, rfl⟩
 have aW : Av W H 35 O := by rw [hW, hH]; exact heap_alloc2_old _ _ _
 have rW : Av W (H + 1) 47 zs := by rw [hW, hH]; exact heap_alloc2_new _ _ _
 have bW : Below w.heap.size w W := by rw [hW]; exact ((Below.refl _ _).alloc (Nat.le_refl _) _).alloc (by simp) _
 have rhd : W.rangeAt H 0 (hdc h) := blc_head (by rw [← hO]; exact aW)
 rw [← hO] at d68 d69 d70 hbt ⊢
 have e68 := aW.cell 68 _ d68
 have e69 := aW.cell 69 _ d69
 have e70 := aW.cell 70 _ d70
 have h68 := Lib.hid (hdc_length k)
 have hH1 : w.heap.size ≤ H + 1 := by omega
 replace hW := Lib.hid hW
 replace hH := Lib.hid hH
 replace hO := Lib.hid hO
 replace lO := Lib.hid lO
 replace oO := Lib.hid oO
 replace hzl := Lib.hid hzl
 clear d68 d69 d70
 go_enter Tryd.func14, Tryd.ntmps14
 go_upto_region 1 with fail
 rw [← hW.out, ← hH.out]
 go_wp2_with (first
  | ((with_reducible refine wpList_loadMF 32 (hdc h) rhd ?_ _ Tryd.underlying32 ?_ ?_ ?_); rfl; rfl; (rw [h68.out]; kernel_rfl))
  | ((with_reducible refine wpList_buildE (.agg O.toArray) ?_ ?_); exact exec_build (cs := O) (ops := [(0, .tmp 4), (1, .tmp 6), (2, .tmp 8), (3, .tmp 10)]) rfl hbt.out)
  | ((with_reducible refine wpList_storeFA 47 bW rW hH1 O ?_ ?_ 71 lO.out ?_ ?_ ?_ ?_); rfl; rfl; kernel_rfl; exact hzl.out; exact oO.out; intro wY aY bY kY zY))
 refine bodyPost_ret (results_cell_row rfl _ _ (H + 1) _ _ (0, 0) _ (by rfl) aY Tryd.underlying47 rfl (by rw [List.size_toArray, lO.out]; kernel_rfl)) rfl ⟨rfl, bY⟩
theorem cr_places : (match Tryd.prog.underlying 92 with | some (.struct fs) => fs.toList.mapM (fun f => (Tryd.prog.info? f.type).map fun i => (f.offset, i.size)) | _ => none) = some [(0, 32), (32, 32), (64, 1), (65, 1)] := by kernel_rfl
theorem cr_zero : (Tryd.prog.info? 92).map (·.zero) = some (some (.agg (cfc zeroCf).toArray)) := by kernel_rfl
theorem zeros_Cfr : Tryd.zeroCells92 = (cfc zeroCf).toArray := by kernel_rfl
set_option maxRecDepth 10000 in
theorem cr_built (x y : List UInt8) (p q : Int) (hx : x.length = 32) (hy : y.length = 32) : Tryd.prog.built 92 [(0, .agg (hcs x)), (1, .agg (hcs y)), (2, .int .i64 p), (3, .int .i64 q)] = some (x.map bv ++ (y.map bv ++ [Value.int .i64 p, Value.int .i64 q])).toArray := by
 have hp := cr_places
 rw [Tryd.underlying92] at hp
 rw [built_struct Tryd.underlying92 cr_zero hp]
 have z32 : ((List.replicate 32 (0 : UInt8)).map bv).length = 32 := rfl
 show Instr.fill _ (([] ++ ((List.replicate 32 (0 : UInt8)).map bv ++ ((List.replicate 32 (0 : UInt8)).map bv ++ [Value.int .i64 0, Value.int .i64 0]))) : List Value).toArray _ = _
 generalize (List.replicate 32 (0 : UInt8)).map bv = Z at *
 refine Eq.trans (fill_step [] Z (x.map bv) _ (off := 0) (size := 32) rfl rfl (by simpa using hx) rfl z32) ?_
 rw [show ([] ++ (x.map bv ++ (Z ++ [Value.int .i64 0, Value.int .i64 0])) : List Value) = x.map bv ++ (Z ++ [Value.int .i64 0, Value.int .i64 0]) from rfl]
 refine Eq.trans (fill_step (x.map bv) Z (y.map bv) _ (off := 32) (size := 32) rfl rfl (by simpa using hy) (by simpa using hx) z32) ?_
 rw [show (x.map bv ++ (y.map bv ++ [Value.int .i64 0, Value.int .i64 0]) : List Value) = (x.map bv ++ y.map bv) ++ ([Value.int .i64 0] ++ [Value.int .i64 0]) by simp]
 refine Eq.trans (fill_step (x.map bv ++ y.map bv) [Value.int .i64 0] [Value.int .i64 p] _ (off := 64) (size := 1) rfl rfl rfl (by simp [hx, hy]) rfl) ?_
 rw [show ((x.map bv ++ y.map bv) ++ ([Value.int .i64 p] ++ [Value.int .i64 0]) : List Value) = (x.map bv ++ (y.map bv ++ [Value.int .i64 p])) ++ ([Value.int .i64 0] ++ []) by simp]
 refine Eq.trans (fill_step (x.map bv ++ (y.map bv ++ [Value.int .i64 p])) [Value.int .i64 0] [Value.int .i64 q] _ (off := 65) (size := 1) rfl rfl rfl (by simp [hx, hy]) rfl) ?_
 simp [Instr.fill]
theorem rg_cf_id {w : World} {b o : Nat} {s : Cf} (r : w.rangeAt b o (cfc s)) : w.rangeAt b o (s.id.map bv) := fun j u hu => by
 refine r j u ?_
 unfold cfc
 rw [List.getElem?_append_left (List.getElem?_eq_some_iff.1 hu).1]
 exact hu
theorem rg_cf_blk {w : World} {b o : Nat} {s : Cf} (h : s.ok) (r : w.rangeAt b o (cfc s)) : w.rangeAt b (o + 32) (s.blk.map bv) := fun j u hu => by
 have hj := (List.getElem?_eq_some_iff.1 hu).1
 have := r (32 + j) u (by
  unfold cfc
  rw [List.getElem?_append_right (by simp [h.1]), List.getElem?_append_left (by simpa [h.1] using hj), ← hu]
  congr 1
  simp [h.1])
 rw [show o + 32 + j = o + (32 + j) by omega]
 exact this
set_option maxRecDepth 10000 in
set_option maxHeartbeats 2000000 in
theorem ConfL (c : Cf) (k : c.ok) (w : World) :
  Calls Tryd.prog 29 #[.agg (cfc c).toArray] w fun e w' => e = .returned (.agg (cfc c).toArray) ∧ Below w.heap.size w w' := by
 have hzb := zeros_Cfr
 obtain ⟨zs, hzz⟩ : ∃ zs, zs = cfc zeroCf := ⟨_, rfl⟩
 have hzl : zs.length = 66 := by rw [hzz]; exact cfc_length zeroCf_ok
 rw [← hzz] at hzb
 clear hzz
 have hbt := cr_built c.id c.blk c.pos (c.dep : Int) k.1 k.2
 rw [show c.id.map bv ++ (c.blk.map bv ++ [Value.int .i64 c.pos, Value.int .i64 (c.dep : Int)]) = cfc c from rfl] at hbt
 obtain ⟨d64, d65⟩ := cfc_at k
 have lO := cfc_length k
 have oO := List.all_eq_true.2 (cfc_one c)
 obtain ⟨W, hW⟩ : ∃ W, W = (w.alloc (.cells (cfc c).toArray 84)).alloc (.cells zs.toArray 92) := ⟨_, rfl⟩
 obtain ⟨H, hH⟩ : ∃ H, H = w.heap.size := ⟨_, rfl⟩
 have aW : Av W H 84 (cfc c) := by rw [hW, hH]; exact heap_alloc2_old _ _ _
 have rW : Av W (H + 1) 92 zs := by rw [hW, hH]; exact heap_alloc2_new _ _ _
 have bW : Below w.heap.size w W := by rw [hW]; exact ((Below.refl _ _).alloc (Nat.le_refl _) _).alloc (by simp) _
 have ri : W.rangeAt H 0 (c.id.map bv) := rg_cf_id aW.range0
 have rb : W.rangeAt H 32 (c.blk.map bv) := by have := rg_cf_blk k aW.range0; rwa [Nat.zero_add] at this
 have e64 := aW.cell 64 _ d64
 have e65 := aW.cell 65 _ d65
 have k1 := Lib.hid (show (c.id.map bv).length = 32 by rw [List.length_map, k.1])
 have k2 := Lib.hid (show (c.blk.map bv).length = 32 by rw [List.length_map, k.2])
 have hH1 : w.heap.size ≤ H + 1 := by omega
 replace hW := Lib.hid hW
 replace hH := Lib.hid hH
 replace lO := Lib.hid lO
 replace oO := Lib.hid oO
 replace hzl := Lib.hid hzl
 replace hbt := Lib.hid hbt
 clear d64 d65
 go_enter Tryd.func29, Tryd.ntmps29
 go_upto_region 1 with fail
 rw [← hW.out, ← hH.out]
 go_wp2_with (first
  | ((with_reducible refine wpList_loadMF 30 (c.id.map bv) ri ?_ _ Tryd.underlying30 ?_ ?_ ?_); rfl; rfl; (rw [k1.out]; kernel_rfl))
  | ((with_reducible refine wpList_loadMF 30 (c.blk.map bv) rb ?_ _ Tryd.underlying30 ?_ ?_ ?_); rfl; rfl; (rw [k2.out]; kernel_rfl))
  | ((with_reducible refine wpList_buildE (.agg (cfc c).toArray) ?_ ?_); exact exec_build (cs := cfc c) (ops := [(0, .tmp 4), (1, .tmp 6), (2, .tmp 8), (3, .tmp 10)]) rfl hbt.out)
  | ((with_reducible refine wpList_storeFA 92 bW rW hH1 (cfc c) ?_ ?_ 66 lO.out ?_ ?_ ?_ ?_); rfl; rfl; kernel_rfl; exact hzl.out; exact oO.out; intro wY aY bY kY zY))
 refine bodyPost_ret (results_cell_row rfl _ _ (H + 1) _ _ (0, 0) _ (by rfl) aY Tryd.underlying92 rfl (by rw [List.size_toArray, lO.out]; kernel_rfl)) rfl ⟨rfl, bY⟩
theorem clamp60 : clampN 60 = 60 := rfl
set_option maxRecDepth 10000 in
set_option maxHeartbeats 4000000 in
theorem Plainly (l : List Hd) (A : Option Addr) (n c : Nat) (hn : l.length = n) (hn2 : n ≤ 1000) (w : World) (ht : Tabs w) (hr : RdHds w A l) :
  Calls Tryd.prog 11 #[.slice A n c] w fun e w' => ∃ v, e = .returned v ∧ TRef w' v (mAll 60 l) ∧ Below w.heap.size w w' := by
 have HN := Lib.hid (TNew 60 w)
 obtain ⟨Bs, hBs⟩ : ∃ B, B = w.heap.size := ⟨_, rfl⟩
 have hBw : w.heap.size ≤ Bs := by rw [hBs]; exact Nat.le_refl _
 rw [clamp60, ← hBs] at HN
 obtain ⟨Z, hZ⟩ : ∃ Z, Z = mAll 60 l := ⟨_, rfl⟩
 rw [← hZ]
 replace hBs := Lib.hid hBs
 replace hZ := Lib.hid hZ
 replace hn := Lib.hid hn
 go_enter Tryd.func11, Tryd.ntmps11
 go_wp2_with (go_at_call 32; refine (HN.out).mono ?_; rintro e w2 ⟨⟨R, M, rfl, T2⟩, b2⟩)
 have b02 : Below w.heap.size w w2 := b2.mono hBw
 go_loopw [4] (fun iv wr => ∃ (k : Nat) (v : Value), k ≤ n ∧ iv = .int .i64 (k : Int) ∧ TAt wr Bs R 60 v M (mAll 60 (l.take k)) ∧ Below w.heap.size w wr) (fun iv _ => n - (intOf iv).toNat)
 case atStart => exact ⟨0, _, by omega, rfl, T2, b02⟩
 case round =>
  clear T2 b02
  obtain ⟨k, v, hk, rfl, T, bw⟩ := hrel
  by_cases hlt : k < n
  ·have t1 : decide ((k : Int) < (n : Int)) = true := by simp; omega
   obtain ⟨x, hx⟩ : ∃ x, l[k]? = some x := ⟨_, List.getElem?_eq_getElem (by rw [hn.out]; exact hlt)⟩
   obtain ⟨b, off, rfl⟩ := hr.adr (by rw [hn.out]; omega)
   obtain ⟨rx, xok⟩ := (hr.below bw).nth k x hx
   have hBr : Bs ≤ wr.heap.size := Nat.le_trans T.hR (Nat.le_of_lt T.av.lt)
   have HA := Lib.hid (TAdd Bs R 60 v M (mAll 60 (l.take k)) x xok wr (ht.below bw) T hBr)
   have hnx := Lib.hid (mAll_take 60 l k x hx)
   have x68 := Lib.hid (hdc_length xok)
   have rx2 := Lib.hid rx
   have m0 : (0 : Int) ≤ (k : Int) := by omega
   have m1 : (k : Int) < (n : Int) := by omega
   replace hx := Lib.hid hx
   clear rx
   go_wp2_with (first
    | ((with_reducible refine wpList_loadMF 32 (hdc x) rx2.out ?_ _ Tryd.underlying32 ?_ ?_ ?_); rfl; rfl; (rw [x68.out]; kernel_rfl))
    | (go_at_call 33; refine (HA.out).mono ?_; rintro e w5 ⟨rfl, ⟨v5, T5⟩, b5, K5⟩))
   rw [← hnx.out] at T5
   replace T5 := Lib.hid T5
   have b05 := Lib.hid (bw.trans (b5.mono hBw))
   refine ⟨⟨k + 1, v5, by omega, by go_num, T5.out, b05.out⟩, ?_⟩
   simp [intOf]; omega
  ·obtain rfl : k = n := by omega
   have t1 : decide ((k : Int) < (k : Int)) = false := by simp
   have htk : l.take k = l := List.take_of_length_le (by rw [hn.out]; exact Nat.le_refl _)
   rw [htk, ← hZ.out] at T
   replace htk := Lib.hid htk
   go_wp2
   go_ret
   exact ⟨_, rfl, T.ref, bw⟩
def wFew (S : List (List UInt8)) (nt nn : Nat) : Bool := (S.all fun s => decide (s.length ≤ 300)) && (decide (S.length ≤ 300) && decide (nt ≤ 60) && decide (nn ≤ 60))
theorem wFew_iff {S : List (List UInt8)} {nt nn : Nat} : wFew S nt nn = true ↔ (∀ s ∈ S, s.length ≤ 300) ∧ S.length ≤ 300 ∧ nt ≤ 60 ∧ nn ≤ 60 := by
 simp only [wFew, Bool.and_eq_true, List.all_eq_true, decide_eq_true_eq, and_assoc]
set_option maxRecDepth 10000 in
set_option maxHeartbeats 4000000 in
theorem WFew (S : List (List UInt8 × Sl)) (As At An : Option Addr) (ns cs nt ct nn cn : Nat) (hS : S.length = ns) (hns : ns ≤ maxLen) (w : World) (rS : RdBss w As S) :
  Calls Tryd.prog 10 #[.agg (wtc As At An ns cs nt ct nn cn).toArray] w fun e w' => e = .returned (.bool (wFew (S.map (·.1)) nt nn)) ∧ Below w.heap.size w w' := by
 obtain ⟨R, hR⟩ : ∃ R, R = wFew (S.map (·.1)) nt nn := ⟨_, rfl⟩
 rw [← hR]
 have hns2 : ns ≤ 9223372036854775807 := Nat.le_trans hns (by decide)
 obtain ⟨W, hW⟩ : ∃ W, W = w.alloc (.cells (wtc As At An ns cs nt ct nn cn).toArray 26) := ⟨_, rfl⟩
 obtain ⟨H, hH⟩ : ∃ H, H = w.heap.size := ⟨_, rfl⟩
 have aW : Av W H 26 (wtc As At An ns cs nt ct nn cn) := by rw [hW, hH]; exact heap_alloc_new _ _
 have bW : Below w.heap.size w W := by rw [hW]; exact (Below.refl _ _).alloc (Nat.le_refl _) _
 have c0 := aW.cell 0 (.slice As ns cs) rfl
 have c1 := aW.cell 1 (.slice At nt ct) rfl
 have c2 := aW.cell 2 (.slice An nn cn) rfl
 replace hW := Lib.hid hW
 replace hH := Lib.hid hH
 replace hS := Lib.hid hS
 replace hR := Lib.hid hR
 clear hns
 go_enter Tryd.func10, Tryd.ntmps10
 go_upto_region 1 with fail
 rw [← hW.out, ← hH.out]
 go_wp2
 go_loopw [3] (fun i wr => ∃ j : Nat, j ≤ ns ∧ i = .int .i64 (j : Int) ∧ wr = W ∧ Hid (∀ q, q < j → ∀ e, S[q]? = some e → e.1.length ≤ 300)) (fun i _ => ns - (intOf i).toNat)
 case atStart => exact ⟨0, by omega, rfl, rfl, Lib.hid (fun q hq => by omega)⟩
 case round =>
  obtain ⟨j, hj, rfl, hwr, hf⟩ := hrel
  have hwr' := hwr.symm
  subst hwr'
  by_cases hlt : j < ns
  ·have t2 : decide ((j : Int) < (ns : Int)) = true := by simp; omega
   obtain ⟨⟨ys, ya, yc⟩, hy⟩ : ∃ y, S[j]? = some y := ⟨_, List.getElem?_eq_getElem (by rw [hS.out]; exact hlt)⟩
   obtain ⟨b, off, rfl⟩ := rS.adr (by rw [hS.out]; omega)
   obtain ⟨g1, g2, g3⟩ := (rS.below bW).nth j _ hy
   dsimp only at g1 g2 g3
   obtain ⟨yl, hyl⟩ : ∃ k, k = ys.length := ⟨_, rfl⟩
   have g1' : W.cell? ⟨b, off + j, none⟩ = some (.slice ya yl yc) := by rw [hyl]; exact g1
   have m0 : 0 ≤ (j : Int) := by omega
   have m1 : (j : Int) < (ns : Int) := by omega
   replace hyl := Lib.hid hyl
   clear g1 g2 g3
   by_cases hb : 300 < yl
   ·have t3 : decide ((300 : Int) < (yl : Int)) = true := by simp; omega
    have eR : R = false := by
     rw [hR.out, Bool.eq_false_iff, ne_eq, wFew_iff]
     rintro ⟨h, _⟩
     have := h ys (List.mem_map.2 ⟨_, List.mem_of_getElem? hy, rfl⟩)
     have := hyl.out
     omega
    replace hy := Lib.hid hy
    go_wp2
    go_ret
    exact ⟨by first | rfl | (rw [eR]; rfl), bW⟩
   ·have t3 : decide ((300 : Int) < (yl : Int)) = false := by simp; omega
    have hf2 : Hid (∀ q, q < j + 1 → ∀ e, S[q]? = some e → e.1.length ≤ 300) := Lib.hid (fun q hq e he => by
     by_cases e2 : q = j
     ·subst e2
      rw [hy] at he
      rw [← Option.some.inj he]
      have := hyl.out
      show ys.length ≤ 300
      omega
     ·exact hf.out q (by omega) e he)
    replace hy := Lib.hid hy
    go_wp2
    refine ⟨⟨j + 1, by omega, by go_num, trivial, hf2⟩, ?_⟩
    simp [intOf]
    omega
  ·obtain rfl : j = ns := by omega
   have t2 : decide ((j : Int) < (j : Int)) = false := by simp
   have hall : ∀ s ∈ S.map (·.1), s.length ≤ 300 := by
    intro s hs
    obtain ⟨e, he, rfl⟩ := List.mem_map.1 hs
    obtain ⟨q, hq, rfl⟩ := List.getElem_of_mem he
    exact hf.out q (by rw [← hS.out]; exact hq) _ (List.getElem?_eq_getElem hq)
   have hla : (S.map (·.1)).all (fun s => decide (s.length ≤ 300)) = true := List.all_eq_true.2 fun s hs => decide_eq_true (hall s hs)
   by_cases p1 : j ≤ 300
   ·by_cases p2 : nt ≤ 60
    ·by_cases p3 : nn ≤ 60
     ·have t4 : decide ((j : Int) ≤ 300) = true := by simp; omega
      have t5 : decide ((nt : Int) ≤ 60) = true := by simp; omega
      have t6 : decide ((nn : Int) ≤ 60) = true := by simp; omega
      have eR : R = true := by rw [hR.out, wFew_iff]; exact ⟨hall, by rw [List.length_map, hS.out]; exact p1, p2, p3⟩
      replace hall := Lib.hid hall
      replace hla := Lib.hid hla
      go_wp2
      go_ret
      exact ⟨by first | rfl | (rw [eR]; rfl), bW⟩
     ·have t4 : decide ((j : Int) ≤ 300) = true := by simp; omega
      have t5 : decide ((nt : Int) ≤ 60) = true := by simp; omega
      have t6 : decide ((nn : Int) ≤ 60) = false := by simp; omega
      have eR : R = false := by rw [hR.out, Bool.eq_false_iff, ne_eq, wFew_iff]; rintro ⟨_, _, _, h⟩; omega
      replace hall := Lib.hid hall
      replace hla := Lib.hid hla
      go_wp2
      go_ret
      exact ⟨by first | rfl | (rw [eR]; rfl), bW⟩
    ·have t4 : decide ((j : Int) ≤ 300) = true := by simp; omega
     have t5 : decide ((nt : Int) ≤ 60) = false := by simp; omega
     have eR : R = false := by rw [hR.out, Bool.eq_false_iff, ne_eq, wFew_iff]; rintro ⟨_, _, h, _⟩; omega
     replace hall := Lib.hid hall
     replace hla := Lib.hid hla
     go_wp2
     go_ret
     exact ⟨by first | rfl | (rw [eR]; rfl), bW⟩
   ·have t4 : decide ((j : Int) ≤ 300) = false := by simp; omega
    have eR : R = false := by rw [hR.out, Bool.eq_false_iff, ne_eq, wFew_iff]; rintro ⟨_, h, _⟩; rw [List.length_map, hS.out] at h; omega
    replace hall := Lib.hid hall
    replace hla := Lib.hid hla
    go_wp2
    go_ret
    exact ⟨by first | rfl | (rw [eR]; rfl), bW⟩
end Go.Proofs.YtobjgebojhjhnaaDoor
namespace Go.Proofs.YtobjgebojhjhnaaDoor
open Go.RowKit
theorem wpList_buildV {P : Program} {t e : TypeId} {size bytes : Nat} (ht : P.underlying t = some (.slice e)) (hi : (P.info? e).map (fun i => (i.size, i.bytes)) = some (size, bytes)) (hz : (P.info? e).map (fun i => (i.zero.map (·.cells.size))) = some (some size)) (h0 : 0 < size) (hb : size ≤ 1000000)
  (cs : List Value) (hc : cs.length = size) (V : Value) (hV : V.cells = cs.toArray) {ops : Array Oper} {rest : List Oper} {a : Act} {w : World} {Q : Exit → Act → World → Prop} {d ty pos af} {y : Operand} (hy : a.eval y = V)
  (k : ∀ w2, w2 = w.alloc (.cells cs.toArray e) → wpList P ops Q rest (a.put d (.slice (some ⟨w.heap.size, 0, none⟩) 1 1)) w2) : wpList P ops Q (⟨d, .buildSlice t 1 #[(0, y)], ty, pos, af, none⟩ :: rest) a w :=
 wpList_execW rfl (exec_buildV ht hi hz h0 hb w cs hc V hV y rfl hy) (k _ rfl)
theorem infoU8 : (Tryd.prog.info? 5).map (fun i => (i.size, i.bytes)) = some (1, 1) := by kernel_rfl
theorem zeroU8 : (Tryd.prog.info? 5).map (fun i => (i.zero.map (·.cells.size))) = some (some 1) := by kernel_rfl
theorem infoHd1 : (Tryd.prog.info? 32).map (fun i => (i.size, i.bytes)) = some (68, 80) := by kernel_rfl
theorem zeroHd1 : (Tryd.prog.info? 32).map (fun i => (i.zero.map (·.cells.size))) = some (some 68) := by kernel_rfl
def inEx : TIn := ⟨List.replicate 32 0, 0, [], 0⟩
def outEx : TOut := ⟨0, [5]⟩
def txEx : TTx := ⟨0, [inEx], [outEx], 0⟩
theorem inEx_ok : inEx.ok := by unfold TIn.ok; decide
theorem outEx_ok : outEx.ok := by unfold TOut.ok; decide
theorem script_ex : wScript [] [5] = ([[5]], 0) := by decide
theorem note_ex : wNote [[5]] [] txEx = ([dblB (txB txEx)], true) := by
 have h1 : txSane txEx = true := by decide
 have h2 : txT txEx [[5]] [] = true := by decide
 unfold wNote noteB
 rw [h1, h2, if_pos (by simp)]
 rfl
def hdEx (I : List UInt8) : Hd := ⟨0, List.replicate 32 0, I, 0, 0, 0⟩
theorem hdEx_ok {I : List UInt8} (h : I.length = 32) : (hdEx I).ok := by
 unfold Hd.ok hdEx
 simp [h]
theorem all_ex (h : Hd) : mAll 60 [h] = [⟨hdId h, h, -1, 0, mWork h.bits⟩] := by
 have e : mAll 60 [h] = (mAdd 60 [] h).1 := rfl
 rw [e]
 unfold mAdd mNode tFind
 simp
theorem find_ex (h : Hd) : tFind (mAll 60 [h]) (hdId h) = some 0 := by
 rw [all_ex]
 simp [tFind]
theorem ext_ex (I : List UInt8) : pExt 1 [I] [1] = some ⟨I, [(0, I)], 1, 1⟩ := by
 have h1 : pMay 1 [I] [1] = true := by simp [pMay]
 have h2 : pHt 1 = 0 := by decide
 have h3 : pDig [1] 0 = some true := by decide
 have h4 : pRest [1] 1 = true := by decide
 have h5 : pRd 1 [1] [I] 0 0 0 0 = some ⟨I, [(0, I)], 1, 1⟩ := by
  rw [pRd, h3]
  simp
 unfold pExt
 rw [if_pos h1, h2, h5]
 simp [pDone, h4]
theorem wProve_yes {ds : List Nd} {T : List (List UInt8)} {N : List Sn} {h : Hd} {tot : Nat} {hs : List (List UInt8)} {fl : List UInt8} {k : Nat} {r : PRes} (h1 : tFind ds (hdId h) = some k) (h2 : pExt tot hs fl = some r) (h3 : r.x = h.root) :
  wProve ds T N h tot hs fl = ((wSeen T (hdId h) r.l N).1, (wSeen T (hdId h) r.l N).2, 0) := by
 unfold wProve
 rw [h1, h2]
 simp only
 rw [if_pos h3]
theorem seen_ex (I B : List UInt8) : wSeen [I] B [(0, I)] [] = ([⟨I, B, 0⟩], 1) := by
 simp [wSeen, wStep]
theorem prove_ex {I : List UInt8} : wProve (mAll 60 [hdEx I]) [I] [] (hdEx I) 1 [I] [1] = ([⟨I, hdId (hdEx I), 0⟩], 1, 0) := by
 rw [wProve_yes (find_ex (hdEx I)) (ext_ex I) rfl]
 have := seen_ex I (hdId (hdEx I))
 generalize wSeen [I] (hdId (hdEx I)) [(0, I)] [] = Z at this ⊢
 rw [this]
theorem dep_ex (h : Hd) : mDep (mAll 60 [h]) 0 0 = 1 := by
 rw [all_ex]
 simp [mDep, mOn, tHgt, tAnc]
theorem confM_some {ns : List Nd} {tip : Int} {s : Sn} {i : Nat} (h : tFind ns s.blk = some i) : confM ns tip s = ⟨s.id, s.blk, s.pos, mDep ns tip i⟩ := by
 unfold confM
 rw [h]
theorem wDepth_one {ns : List Nd} {tip : Int} {x : List UInt8} {s : Sn} (h : wLies ns tip x s = true) : wDepth ns tip x [s] = (confM ns tip s, true) := by
 unfold wDepth
 rw [List.find?_cons_of_pos h]
theorem wLies_of {ns : List Nd} {tip : Int} {x : List UInt8} {s : Sn} (h1 : s.id = x) (h2 : (confM ns tip s).dep = 1) : wLies ns tip x s = true := by
 unfold wLies
 rw [h1, h2]
 simp
theorem depth_gen {ns : List Nd} {I B : List UInt8} (h : tFind ns B = some 0) (d : mDep ns 0 0 = 1) : wDepth ns 0 I [⟨I, B, 0⟩] = (⟨I, B, 0, 1⟩, true) := by
 have h1 := confM_some (ns := ns) (tip := 0) (s := ⟨I, B, 0⟩) h
 rw [d] at h1
 rw [wDepth_one (ns := ns) (tip := 0) (x := I) (s := ⟨I, B, 0⟩) (wLies_of rfl (by rw [h1])), h1]
theorem depth_ex {I : List UInt8} : wDepth (mAll 60 [hdEx I]) 0 I [⟨I, hdId (hdEx I), 0⟩] = (⟨I, hdId (hdEx I), 0, 1⟩, true) := by
 exact depth_gen (find_ex (hdEx I)) (dep_ex (hdEx I))
end Go.Proofs.YtobjgebojhjhnaaDoor
