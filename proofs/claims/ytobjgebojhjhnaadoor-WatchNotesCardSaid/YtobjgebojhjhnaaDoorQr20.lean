import Derived.Test.YtobjgebojhjhnaaDoorQr19
import Derived.Test.YtobjgebojhjhnaaDoorQr18
import Derived.Test.YtobjgebojhjhnaaDoorQr2
namespace Go.Proofs.YtobjgebojhjhnaaDoor
open Go.RowKit
theorem infoIn1 : (Tryd.prog.info? 101).map (fun i => (i.size, i.bytes)) = some (35, 72) := by kernel_rfl
theorem zeroIn1 : (Tryd.prog.info? 101).map (fun i => (i.zero.map (·.cells.size))) = some (some 35) := by kernel_rfl
theorem infoOut1 : (Tryd.prog.info? 104).map (fun i => (i.size, i.bytes)) = some (2, 32) := by kernel_rfl
theorem zeroOut1 : (Tryd.prog.info? 104).map (fun i => (i.zero.map (·.cells.size))) = some (some 2) := by kernel_rfl
theorem in_len : (inc (inEx, ((none, 0) : Sl))).length = 35 := rfl
theorem out_built (A : Option Addr) : Tryd.prog.built 104 [(1, .slice A 1 1)] = some (outc (outEx, ((A, 1) : Sl))).toArray := by kernel_rfl
theorem tx_built (A B : Option Addr) : Tryd.prog.built 75 [(1, .slice A 1 1), (2, .slice B 1 1)] = some ([.int .u32 0, .slice A 1 1, .slice B 1 1, .int .u32 0] : List Value).toArray := by kernel_rfl
theorem hd_zeroW : (Tryd.prog.info? 32).map (·.zero) = some (some (.agg (hdc zeroNd.head).toArray)) := by kernel_rfl
theorem zeros_HdW : Tryd.zeroCells32 = (hdc zeroNd.head).toArray := by kernel_rfl
theorem hd_placesW : (match Tryd.prog.underlying 32 with | some (.struct fs) => fs.toList.mapM (fun f => (Tryd.prog.info? f.type).map fun i => (f.offset, i.size)) | _ => none) = some [(0, 1), (1, 32), (33, 32), (65, 1), (66, 1), (67, 1)] := by kernel_rfl
set_option maxRecDepth 10000 in
theorem hdE_built (I : List UInt8) (hI : I.length = 32) : Tryd.prog.built 32 [(2, .agg (hcs I))] = some (hdc (hdEx I)).toArray := by
 have hp := hd_placesW
 rw [Tryd.underlying32] at hp
 rw [built_struct Tryd.underlying32 hd_zeroW hp]
 have z32 : ((List.replicate 32 (0 : UInt8)).map bv).length = 32 := rfl
 show Instr.fill _ ((([Value.int .u32 0] ++ (List.replicate 32 (0 : UInt8)).map bv) ++ ((List.replicate 32 (0 : UInt8)).map bv ++ [Value.int .u32 0, Value.int .u32 0, Value.int .u32 0])) : List Value).toArray _ = some ([Value.int .u32 0] ++ ((List.replicate 32 (0 : UInt8)).map bv ++ (I.map bv ++ [Value.int .u32 0, Value.int .u32 0, Value.int .u32 0]))).toArray
 generalize (List.replicate 32 (0 : UInt8)).map bv = Z at *
 refine Eq.trans (fill_step ([Value.int .u32 0] ++ Z) Z (I.map bv) _ (off := 33) (size := 32) rfl rfl (by simpa using hI) (by simp [z32]) z32) ?_
 simp [Instr.fill]
set_option maxRecDepth 10000 in
set_option maxHeartbeats 8000000 in
theorem awake21 (w : World) (ht : Tabs w) : Calls Tryd.prog 9 #[] w fun e w' => e = .returned (.bool true) ∧ Below w.heap.size w w' := by
 have hb0 : Hid (∀ (a : Act) (w' : World) d tp pos af, (execOp a.eval ⟨d, .build 42 #[], tp, pos, af, none⟩).run Tryd.prog w' = .ok (.value (.agg (wtc none none none 0 0 0 0 0 0).toArray)) w') := Lib.hid (fun a w' d tp pos af => by kernel_rfl)
 have hb1 : Hid (∀ (a : Act) (w' : World) d tp pos af, (execOp a.eval ⟨d, .build 101 #[], tp, pos, af, none⟩).run Tryd.prog w' = .ok (.value (.agg (inc (inEx, ((none, 0) : Sl))).toArray)) w') := Lib.hid (fun a w' d tp pos af => by kernel_rfl)
 have HSc := fun w' B (r : Rd w' B (([5] : List UInt8).map bv)) => WScript [] none none none 0 0 0 0 0 0 rfl (by omega) [5] B 1 1 rfl w' (RdBss.nil _ _) r
 rw [List.map_nil, script_ex] at HSc
 dsimp only at HSc
 obtain ⟨I, hI⟩ : ∃ I, I = dblB (txB txEx) := ⟨_, rfl⟩
 have I32 : I.length = 32 := by rw [hI]; exact dblB_length _
 obtain ⟨B, hB⟩ : ∃ B, B = hdId (hdEx I) := ⟨_, rfl⟩
 have B32 : B.length = 32 := by rw [hB]; exact hdId_length _
 have hhok := hdEx_ok I32
 have k32 := Lib.hid (show (I.map bv).length = 32 by rw [List.length_map, I32])
 have ione := Lib.hid (show (I.map bv).all (·.oneCell') = true by rw [List.all_eq_true]; exact bv_one I)
 have h68 := Lib.hid (hdc_length hhok)
 have hone := Lib.hid (List.all_eq_true.2 (hdc_one (hdEx I)))
 have hhb := Lib.hid (hdE_built I I32)
 have hzh := zeros_HdW
 obtain ⟨zs, hzs⟩ : ∃ zs, zs = hdc zeroNd.head := ⟨_, rfl⟩
 have hzl : zs.length = 68 := by rw [hzs]; rfl
 rw [← hzs] at hzh
 clear hzs
 have hzc := zeros_Cf
 obtain ⟨ys, hys⟩ : ∃ ys, ys = cfc zeroCf := ⟨_, rfl⟩
 have hyl : ys.length = 66 := by rw [hys]; exact cfc_length zeroCf_ok
 rw [← hys] at hzc
 clear hys
 replace HSc := Lib.hid HSc
 replace hI := Lib.hid hI
 replace hB := Lib.hid hB
 replace I32 := Lib.hid I32
 replace B32 := Lib.hid B32
 replace hzl := Lib.hid hzl
 replace hyl := Lib.hid hyl
 go_enter Tryd.func9, Tryd.ntmps9
 go_upto_region 2 with (first
  | ((with_reducible refine wpList_buildE (.agg (wtc none none none 0 0 0 0 0 0).toArray) ?_ ?_); exact hb0.out _ _ _ _ _ _)
  | ((with_reducible refine wpList_buildV Tryd.underlying33 infoU8 zeroU8 (by decide) (by decide) ([.int .u8 5]) rfl (.int .u8 5) rfl ?_ ?_); rfl; intro w1 hw1; have b1 : Below w.heap.size w w1 := (by rw [hw1]; exact (Below.refl _ _).alloc (Nat.le_refl _) _); have qw1 : Av w1 w.heap.size 5 ([.int .u8 5]) := (by rw [hw1]; exact heap_alloc_new _ _); replace hw1 := Lib.hid hw1; have r1 : Rd w1 (some ⟨w.heap.size, 0, none⟩) (([5] : List UInt8).map bv) := qw1.rd)
  | (go_at_call 19; refine (HSc.out w1 _ r1).mono ?_; rintro e w2 ⟨A1, n1, c1, S1, rfl, hn1, rS1, eS1, b2⟩; have hn1' : n1 = 1 := (by rw [← hn1, ← List.length_map (f := fun x : List UInt8 × Sl => x.1), eS1]; rfl); subst hn1')
  | ((with_reducible refine wpList_storeF 42 ((Below.refl w2.heap.size w2).alloc (Nat.le_refl _) _) (heap_alloc_new _ _) (Nat.le_refl _) (wtc A1 none none 1 c1 0 0 0 0) ?_ ?_ 3 ?_ ?_ ?_ ?_ ?_); rfl; rfl; exact rfl; kernel_rfl; rfl; exact wtc_one _ _ _ _ _ _ _ _ _; intro w3 a3 b3 kw3 zw3; clear kw3 zw3))
 have B3 : Below w.heap.size w w3 := b1.trans ((b2.trans (b3.mono b2.size)).mono b1.size)
 have rS3 := rS1.below b3
 obtain ⟨G1, hG1⟩ : ∃ g, g = w2.heap.size := ⟨_, rfl⟩
 rw [← hG1] at a3 ⊢
 replace hG1 := Lib.hid hG1
 replace eS1 := Lib.hid eS1
 replace hn1 := Lib.hid hn1
 clear b1 b2 b3 rS1 r1 qw1
 go_upto_region 3 with (first
  | ((with_reducible refine wpList_buildE (.agg (inc (inEx, ((none, 0) : Sl))).toArray) ?_ ?_); exact hb1.out _ _ _ _ _ _)
  | ((with_reducible refine wpList_buildV Tryd.underlying72 infoIn1 zeroIn1 (by decide) (by decide) (inc (inEx, ((none, 0) : Sl))) in_len (.agg (inc (inEx, ((none, 0) : Sl))).toArray) rfl ?_ ?_); rfl; intro w4 hw4; have b4 : Below w3.heap.size w3 w4 := (by rw [hw4]; exact (Below.refl _ _).alloc (Nat.le_refl _) _); have qw4 : Av w4 w3.heap.size 101 (inc (inEx, ((none, 0) : Sl))) := (by rw [hw4]; exact heap_alloc_new _ _); replace hw4 := Lib.hid hw4)
  | ((with_reducible refine wpList_buildV Tryd.underlying33 infoU8 zeroU8 (by decide) (by decide) ([.int .u8 5]) rfl (.int .u8 5) rfl ?_ ?_); rfl; intro w5 hw5; have b5 : Below w4.heap.size w4 w5 := (by rw [hw5]; exact (Below.refl _ _).alloc (Nat.le_refl _) _); have qw5 : Av w5 w4.heap.size 5 ([.int .u8 5]) := (by rw [hw5]; exact heap_alloc_new _ _); replace hw5 := Lib.hid hw5)
  | ((with_reducible refine wpList_buildE (.agg (outc (outEx, ((some ⟨w4.heap.size, 0, none⟩, 1) : Sl))).toArray) ?_ ?_); exact exec_build (cs := outc (outEx, ((some ⟨w4.heap.size, 0, none⟩, 1) : Sl))) (ops := [(1, .tmp 23)]) rfl (out_built _))
  | ((with_reducible refine wpList_buildV Tryd.underlying73 infoOut1 zeroOut1 (by decide) (by decide) (outc (outEx, ((some ⟨w4.heap.size, 0, none⟩, 1) : Sl))) rfl (.agg (outc (outEx, ((some ⟨w4.heap.size, 0, none⟩, 1) : Sl))).toArray) rfl ?_ ?_); rfl; intro w6 hw6; have b6 : Below w5.heap.size w5 w6 := (by rw [hw6]; exact (Below.refl _ _).alloc (Nat.le_refl _) _); have qw6 : Av w6 w5.heap.size 104 (outc (outEx, ((some ⟨w4.heap.size, 0, none⟩, 1) : Sl))) := (by rw [hw6]; exact heap_alloc_new _ _); replace hw6 := Lib.hid hw6)
  | ((with_reducible refine wpList_buildE (.agg ([.int .u32 0, .slice (some ⟨w3.heap.size, 0, none⟩) 1 1, .slice (some ⟨w5.heap.size, 0, none⟩) 1 1, .int .u32 0] : List Value).toArray) ?_ ?_); exact exec_build (cs := [.int .u32 0, .slice (some ⟨w3.heap.size, 0, none⟩) 1 1, .slice (some ⟨w5.heap.size, 0, none⟩) 1 1, .int .u32 0]) (ops := [(1, .tmp 22), (2, .tmp 25)]) rfl (tx_built _ _))
  | ((with_reducible refine wpList_storeF 75 ((Below.refl w6.heap.size w6).alloc (Nat.le_refl _) _) (heap_alloc_new _ _) (Nat.le_refl _) ([.int .u32 0, .slice (some ⟨w3.heap.size, 0, none⟩) 1 1, .slice (some ⟨w5.heap.size, 0, none⟩) 1 1, .int .u32 0]) ?_ ?_ 4 ?_ ?_ ?_ ?_ ?_); rfl; rfl; exact rfl; kernel_rfl; rfl; exact rfl; intro w7 a7 b7 kw7 zw7; clear kw7 zw7))
 have B4 := B3.trans (b4.mono B3.size)
 have b47 : Below w4.heap.size w4 w7 := b5.trans ((b6.trans (b7.mono b6.size)).mono b5.size)
 have b57 : Below w5.heap.size w5 w7 := b6.trans (b7.mono b6.size)
 have B7 := B4.trans (b47.mono B4.size)
 have a37 := a3.below (b4.trans (b47.mono b4.size))
 have rS7 := rS3.below (b4.trans (b47.mono b4.size))
 have rI : RdIns w7 (some ⟨w3.heap.size, 0, none⟩) [(inEx, ((none, 0) : Sl))] := by
  refine ⟨?_, fun e he => ?_⟩
  ·have := (qw4.below b47).rd
   simpa [icl] using this
  ·rw [List.mem_singleton.1 he]
   exact ⟨inEx_ok, Rd.nil _ _, Nat.le_refl _⟩
 have rO : RdOuts w7 (some ⟨w5.heap.size, 0, none⟩) [(outEx, ((some ⟨w4.heap.size, 0, none⟩, 1) : Sl))] := by
  refine ⟨?_, fun e he => ?_⟩
  ·have := (qw6.below b7).rd
   simpa [ocl] using this
  ·rw [List.mem_singleton.1 he]
   exact ⟨outEx_ok, (qw5.below b57).rd, Nat.le_refl _⟩
 obtain ⟨P3, hP3⟩ : ∃ p, p = w3.heap.size := ⟨_, rfl⟩
 obtain ⟨P4, hP4⟩ : ∃ p, p = w4.heap.size := ⟨_, rfl⟩
 obtain ⟨P5, hP5⟩ : ∃ p, p = w5.heap.size := ⟨_, rfl⟩
 obtain ⟨G3, hG3⟩ : ∃ g, g = w6.heap.size := ⟨_, rfl⟩
 rw [← hG3] at a7 ⊢
 rw [← hP3] at a7 rI ⊢
 rw [← hP4] at rO ⊢
 rw [← hP5] at a7 rO ⊢
 replace hP3 := Lib.hid hP3
 replace hP4 := Lib.hid hP4
 replace hP5 := Lib.hid hP5
 replace hG3 := Lib.hid hG3
 clear b4 b5 b6 b7 b47 b57 qw4 qw5 qw6 a3 rS3 B3 B4
 have HNo := fun w' t r1 r2 rs => WNote 0 0 (by omega) (by omega) [(inEx, ((none, 0) : Sl))] [(outEx, ((some ⟨P4, 0, none⟩, 1) : Sl))] (some ⟨P3, 0, none⟩) (some ⟨P5, 0, none⟩) 1 1 1 1 rfl rfl S1 A1 none none 1 c1 0 0 0 0 hn1.out (by omega) [] rfl (by omega) w' t r1 r2 rs (RdHs.nil _ _)
 rw [show txOf 0 [(inEx, ((none, 0) : Sl))] [(outEx, ((some ⟨P4, 0, none⟩, 1) : Sl))] 0 = txEx from rfl, eS1.out, note_ex, ← hI.out] at HNo
 have HId := fun w' r1 r2 t => TId_ok 0 0 (by omega) (by omega) [(inEx, ((none, 0) : Sl))] [(outEx, ((some ⟨P4, 0, none⟩, 1) : Sl))] (some ⟨P3, 0, none⟩) (some ⟨P5, 0, none⟩) 1 1 1 1 rfl rfl w' r1 r2 t (by rw [show txOf 0 [(inEx, ((none, 0) : Sl))] [(outEx, ((some ⟨P4, 0, none⟩, 1) : Sl))] 0 = txEx from rfl]; decide)
 rw [show txOf 0 [(inEx, ((none, 0) : Sl))] [(outEx, ((some ⟨P4, 0, none⟩, 1) : Sl))] 0 = txEx from rfl, ← hI.out] at HId
 dsimp only at HNo
 have t7 := ht.below B7
 replace HNo := Lib.hid HNo
 replace HId := Lib.hid HId
 go_upto_region 4 with (first
  | ((with_reducible refine wpList_loadF 42 a37 ?_ _ 3 rfl Tryd.underlying42 ?_ ?_ ?_); rfl; rfl; kernel_rfl)
  | ((with_reducible refine wpList_loadF 75 a7 ?_ _ 4 rfl Tryd.underlying75 ?_ ?_ ?_); rfl; rfl; kernel_rfl)
  | (go_at_call 20; refine (HNo.out w7 t7 rI rO rS7).mono ?_; rintro e w8 ⟨A2, n2, c2, rfl, hn2, rT8, b8⟩; have hn2' : n2 = 1 := hn2.symm; subst hn2'; clear hn2)
  | ((with_reducible refine wpList_storeF 42 ((Below.refl w8.heap.size w8).alloc (Nat.le_refl _) _) (heap_alloc_new _ _) (Nat.le_refl _) (wtc A1 A2 none 1 c1 1 c2 0 0) ?_ ?_ 3 ?_ ?_ ?_ ?_ ?_); rfl; rfl; exact rfl; kernel_rfl; rfl; exact wtc_one _ _ _ _ _ _ _ _ _; intro w9 a9 b9 kw9 zw9; clear kw9 zw9))
 have b89 := b8.trans (b9.mono b8.size)
 have B9 := B7.trans (b89.mono B7.size)
 have a7' := a7.below b89
 have rI9 := rI.below b89
 have rO9 := rO.below b89
 have rT9 := rT8.below b9
 have t9 := ht.below B9
 obtain ⟨G4, hG4⟩ : ∃ g, g = w8.heap.size := ⟨_, rfl⟩
 rw [← hG4] at a9 ⊢
 replace hG4 := Lib.hid hG4
 clear b8 b9 b89 rT8 a7 rI rO rS7 a37
 go_upto_region 5 with (first
  | ((with_reducible refine wpList_loadF 75 a7' ?_ _ 4 rfl Tryd.underlying75 ?_ ?_ ?_); rfl; rfl; kernel_rfl)
  | (go_at_call 22; refine (HId.out w9 rI9 rO9 t9).mono ?_; rintro e w10 ⟨rfl, b10⟩)
  | ((with_reducible refine wpList_storeF 30 ((Below.refl w10.heap.size w10).alloc (Nat.le_refl _) _) (heap_alloc_new _ _) (Nat.le_refl _) (I.map bv) ?_ ?_ 32 ?_ ?_ ?_ ?_ ?_); rfl; rfl; exact k32.out; kernel_rfl; (first | rfl | simp); exact ione.out; intro w11 i11 b11 kw11 zw11; clear kw11 zw11))
 have b11' := b10.trans (b11.mono b10.size)
 have B11 := B9.trans (b11'.mono B9.size)
 have a11 := a9.below b11'
 have rT11 := rT9.below b11'
 obtain ⟨G6, hG6⟩ : ∃ g, g = w10.heap.size := ⟨_, rfl⟩
 rw [← hG6] at i11 ⊢
 replace hG6 := Lib.hid hG6
 clear b10 b11 b11' a9 rT9 t9 rI9 rO9 a7'
 go_upto_region 6 with (first
  | ((with_reducible refine wpList_loadF 30 i11 ?_ _ 32 k32.out Tryd.underlying30 ?_ ?_ ?_); rfl; rfl; kernel_rfl)
  | ((with_reducible refine wpList_buildE (.agg (hdc (hdEx I)).toArray) ?_ ?_); exact exec_build (cs := hdc (hdEx I)) (ops := [(2, .tmp 38)]) rfl hhb.out)
  | ((with_reducible refine wpList_storeF 32 ((Below.refl w11.heap.size w11).alloc (Nat.le_refl _) _) (heap_alloc_new _ _) (Nat.le_refl _) (hdc (hdEx I)) ?_ ?_ 68 ?_ ?_ ?_ ?_ ?_); rfl; rfl; exact h68.out; kernel_rfl; (rw [List.size_toArray]; exact hzl.out); exact hone.out; intro w12 h12 b12 kw12 zw12; clear kw12 zw12))
 have B12 := B11.trans (b12.mono B11.size)
 have a12 := a11.below b12
 have i12 := i11.below b12
 have rT12 := rT11.below b12
 obtain ⟨G8, hG8⟩ : ∃ g, g = w11.heap.size := ⟨_, rfl⟩
 rw [← hG8] at h12 ⊢
 replace hG8 := Lib.hid hG8
 clear b12 a11 i11 rT11
 have HPl := fun w' t r => Plainly [hdEx I] (some ⟨w12.heap.size, 0, none⟩) 1 1 rfl (by omega) w' t r
 replace HPl := Lib.hid HPl
 have t12 := ht.below B12
 go_upto_region 7 with (first
  | ((with_reducible refine wpList_loadF 32 h12 ?_ _ 68 h68.out Tryd.underlying32 ?_ ?_ ?_); rfl; rfl; kernel_rfl)
  | ((with_reducible refine wpList_buildV Tryd.underlying27 infoHd1 zeroHd1 (by decide) (by decide) (hdc (hdEx I)) h68.out (.agg (hdc (hdEx I)).toArray) rfl ?_ ?_); rfl; intro w13 hw13; have b13 : Below w12.heap.size w12 w13 := (by rw [hw13]; exact (Below.refl _ _).alloc (Nat.le_refl _) _); have qw13 : Av w13 w12.heap.size 32 (hdc (hdEx I)) := (by rw [hw13]; exact heap_alloc_new _ _); replace hw13 := Lib.hid hw13; have r13 : RdHds w13 (some ⟨w12.heap.size, 0, none⟩) [hdEx I] := ⟨(by have := qw13.rd; simpa [hdl] using this), fun e he => by rw [List.mem_singleton.1 he]; exact hhok⟩; have t13 := t12.below b13)
  | (go_at_call 11; refine (HPl.out w13 t13 r13).mono ?_; rintro e w14 ⟨v, rfl, hv, b14⟩))
 have b14' := b13.trans (b14.mono b13.size)
 have B14 := B12.trans (b14'.mono B12.size)
 have a14 := a12.below b14'
 have i14 := i12.below b14'
 have h14 := h12.below b14'
 have rT14 := rT12.below b14'
 clear b13 b14 b14' a12 i12 h12 rT12 r13 qw13 t12 t13 HPl
 have HPr := fun w' D1 D2 t hv rT rh rf => WProve A1 A2 none 1 c1 1 c2 0 0 [I] rfl (by omega) [] rfl (by omega) v (mAll 60 [hdEx I]) (hdEx I) hhok 1 (by omega) [I] (All32.one I32.out) [1] D1 1 1 D2 1 1 rfl rfl (by omega) (by omega) w' t hv rT (RdSns.nil _ _) rh rf
 rw [prove_ex, ← hB.out] at HPr
 dsimp only at HPr
 have hbb := Lib.hid (bl_built (hdEx I) hhok 1)
 replace HPr := Lib.hid HPr
 go_upto_region 8 with (first
  | ((with_reducible refine wpList_loadF 42 a14 ?_ _ 3 rfl Tryd.underlying42 ?_ ?_ ?_); rfl; rfl; kernel_rfl)
  | ((with_reducible refine wpList_loadF 32 h14 ?_ _ 68 h68.out Tryd.underlying32 ?_ ?_ ?_); rfl; rfl; kernel_rfl)
  | ((with_reducible refine wpList_loadF 30 i14 ?_ _ 32 k32.out Tryd.underlying30 ?_ ?_ ?_); rfl; rfl; kernel_rfl)
  | ((with_reducible refine wpList_buildV Tryd.underlying23 infoHh zeroHh (by decide) (by decide) (I.map bv) k32.out (.agg (I.map bv).toArray) rfl ?_ ?_); rfl; intro w15 hw15; have b15 : Below w14.heap.size w14 w15 := (by rw [hw15]; exact (Below.refl _ _).alloc (Nat.le_refl _) _); have qw15 : Av w15 w14.heap.size 30 (I.map bv) := (by rw [hw15]; exact heap_alloc_new _ _); replace hw15 := Lib.hid hw15)
  | ((with_reducible refine wpList_buildV Tryd.underlying33 infoU8 zeroU8 (by decide) (by decide) ([.int .u8 1]) rfl (.int .u8 1) rfl ?_ ?_); rfl; intro w16 hw16; have b16 : Below w15.heap.size w15 w16 := (by rw [hw16]; exact (Below.refl _ _).alloc (Nat.le_refl _) _); have qw16 : Av w16 w15.heap.size 5 ([.int .u8 1]) := (by rw [hw16]; exact heap_alloc_new _ _); replace hw16 := Lib.hid hw16; have b16' := b15.trans (b16.mono b15.size); have t16 := ht.below (B14.trans (b16'.mono B14.size)); have hv16 := hv.below b16'; have rT16 := rT14.below b16'; have rh16 : Rd w16 (some ⟨w14.heap.size, 0, none⟩) (hcl [I]) := (by rw [hcl_one]; exact (qw15.below b16).rd); have rf16 : Rd w16 (some ⟨w15.heap.size, 0, none⟩) (([1] : List UInt8).map bv) := qw16.rd)
  | ((with_reducible refine wpList_buildE (.agg (blc (hdEx I) 1 (some ⟨w14.heap.size, 0, none⟩) 1 1 (some ⟨w15.heap.size, 0, none⟩) 1 1).toArray) ?_ ?_); exact exec_build (cs := blc (hdEx I) 1 (some ⟨w14.heap.size, 0, none⟩) 1 1 (some ⟨w15.heap.size, 0, none⟩) 1 1) (ops := [(0, .tmp 46), (1, .const (.int .u32 1)), (2, .tmp 48), (3, .tmp 49)]) rfl (hbb.out _ _ _ _ _ _))
  | (go_at_call 12; refine (HPr.out w16 _ _ t16 hv16 rT16 rh16 rf16).mono ?_; rintro e w17 ⟨A3, n3, c3, rfl, hn3, rN17, b17⟩; have hn3' : n3 = 1 := hn3.symm; subst hn3'; clear hn3)
  | ((with_reducible refine wpList_storeF 42 ((Below.refl w17.heap.size w17).alloc (Nat.le_refl _) _) (heap_alloc_new _ _) (Nat.le_refl _) (wtc A1 A2 A3 1 c1 1 c2 1 c3) ?_ ?_ 3 ?_ ?_ ?_ ?_ ?_); rfl; rfl; exact rfl; kernel_rfl; rfl; exact wtc_one _ _ _ _ _ _ _ _ _; intro w18 a18 b18 kw18 zw18; clear kw18 zw18))
 have b17' := b17.trans (b18.mono b17.size)
 have b18' := b16'.trans (b17'.mono b16'.size)
 have B18 := B14.trans (b18'.mono B14.size)
 have i18 := i14.below b18'
 have hv18 := hv.below b18'
 have rN18 := rN17.below b18
 obtain ⟨G10, hG10⟩ : ∃ g, g = w17.heap.size := ⟨_, rfl⟩
 rw [← hG10] at a18 ⊢
 replace hG10 := Lib.hid hG10
 have hok60 : TOk (mAll 60 [hdEx I]) := mAll_ok 60 [hdEx I] (fun e he => by rw [List.mem_singleton.1 he]; exact hhok)
 have HDe := fun w' hv r => WDepth A1 A2 A3 1 c1 1 c2 1 c3 [⟨I, B, 0⟩] rfl (by omega) v (mAll 60 [hdEx I]) hok60 0 (by omega) I I32.out w' hv r
 have hdx := depth_ex (I := I)
 rw [← hB.out] at hdx
 rw [hdx] at HDe
 dsimp only at HDe
 obtain ⟨C, hC⟩ : ∃ C : Cf, C = ⟨I, B, 0, 1⟩ := ⟨_, rfl⟩
 rw [← hC] at HDe
 have Cok : C.ok := by rw [hC]; exact ⟨I32.out, B32.out⟩
 have C66 := Lib.hid (cfc_length Cok)
 have Cone := Lib.hid (List.all_eq_true.2 (cfc_one C))
 obtain ⟨_, q65⟩ := cfc_at Cok
 have hCd : C.dep = 1 := by rw [hC]
 have hCi : C.id = I := by rw [hC]
 rw [hCd] at q65
 replace hdx := Lib.hid hdx
 replace HDe := Lib.hid HDe
 replace hC := Lib.hid hC
 replace hCd := Lib.hid hCd
 replace hCi := Lib.hid hCi
 replace q65 := Lib.hid q65
 clear b15 b16 b16' b17 b17' b18 b18' qw15 qw16 t16 hv16 rT16 rh16 rf16 hv rN17 a14 h14 i14 rT14
 go_upto_region 9 with (first
  | ((with_reducible refine wpList_loadF 42 a18 ?_ _ 3 rfl Tryd.underlying42 ?_ ?_ ?_); rfl; rfl; kernel_rfl)
  | ((with_reducible refine wpList_loadF 30 i18 ?_ _ 32 k32.out Tryd.underlying30 ?_ ?_ ?_); rfl; rfl; kernel_rfl)
  | (go_at_call 26; refine (HDe.out w18 hv18 rN18).mono ?_; rintro e w19 ⟨rfl, b19⟩)
  | ((with_reducible refine wpList_storeF 84 ((Below.refl w19.heap.size w19).alloc (Nat.le_refl _) _) (heap_alloc_new _ _) (Nat.le_refl _) (cfc C) ?_ ?_ 66 ?_ ?_ ?_ ?_ ?_); rfl; rfl; exact C66.out; kernel_rfl; (rw [List.size_toArray]; exact hyl.out); exact Cone.out; intro w20 a20 b20 kw20 zw20; clear kw20 zw20))
 have b20' := b19.trans (b20.mono b19.size)
 have B20 := B18.trans (b20'.mono B18.size)
 have i20 := i18.below b20'
 obtain ⟨G13, hG13⟩ : ∃ g, g = w19.heap.size := ⟨_, rfl⟩
 rw [← hG13] at a20 ⊢
 replace hG13 := Lib.hid hG13
 have rid : w20.rangeAt G13 0 (I.map bv) := by have := rg_cf_id (s := C) a20.range0; rw [hCi.out] at this; exact this
 have c65 : w20.cell? ⟨G13, 65, none⟩ = some (.int .i64 1) := a20.cell 65 _ q65.out
 have NI := eqlHg I I I32.out I32.out
 rw [beq_self_eq_true] at NI
 replace NI := Lib.hid NI
 clear b19 b20 b20' a20 a18
 go_wp2_with (first
  | ((with_reducible refine wpList_loadMH 30 (I.map bv) rid ?_ ?_ _ Tryd.underlying30 ?_ ?_ ?_); rfl; rfl; rfl; (rw [k32.out]; kernel_rfl))
  | ((with_reducible refine wpList_loadG 30 i20 ?_ ?_ _ 32 k32.out Tryd.underlying30 ?_ ?_ ?_); rfl; rfl; rfl; kernel_rfl)
  | ((with_reducible refine wpList_binG (op := .eql) (ty := 30) ?_ ?_ ?_ (NI.out _ _ w20) ?_); rfl; rfl; rfl))
 go_ret
 exact ⟨rfl, B20⟩
end Go.Proofs.YtobjgebojhjhnaaDoor
namespace Go.Proofs.YtobjgebojhjhnaaDoor
open Go.RowKit
def Came (T : List (List UInt8)) (I : List UInt8) (ms : List (Nat × List UInt8)) (s : Sn) : Prop := s.blk = I ∧ T.contains s.id = true ∧ ∃ m ∈ ms, m.2 = s.id ∧ (m.1 : Int) = s.pos
theorem wFold_spec (T : List (List UInt8)) (I : List UInt8) (N : List Sn) (all : List (Nat × List UInt8)) : ∀ (ms : List (Nat × List UInt8)) (D : List Sn), (∀ m ∈ ms, m ∈ all) → (∀ s ∈ D, Came T I all s) →
  ∃ D', ms.foldl (wStep T I) (N ++ D, D.length) = (N ++ D', D'.length) ∧ ∀ s ∈ D', Came T I all s
 | [], D, _, hD => ⟨D, rfl, hD⟩
 | m :: ms, D, hm, hD => by
  rw [List.foldl_cons]
  cases hc : (decide (4096 ≤ (N ++ D).length) || !(T.contains m.2) || (N ++ D).contains (Sn.mk m.2 I (m.1 : Int))) with
  | true =>
   have e : wStep T I (N ++ D, D.length) m = (N ++ D, D.length) := by
    unfold wStep
    rw [if_pos hc]
   rw [e]
   exact wFold_spec T I N all ms D (fun x hx => hm x (List.mem_cons_of_mem _ hx)) hD
  | false =>
   have e : wStep T I (N ++ D, D.length) m = (N ++ (D ++ [Sn.mk m.2 I (m.1 : Int)]), (D ++ [Sn.mk m.2 I (m.1 : Int)]).length) := by
    unfold wStep
    rw [if_neg (by rw [hc]; decide)]
    simp
   rw [e]
   refine wFold_spec T I N all ms _ (fun x hx => hm x (List.mem_cons_of_mem _ hx)) fun s hs => ?_
   rcases List.mem_append.1 hs with hs | hs
   ·exact hD s hs
   ·rw [List.mem_singleton.1 hs]
    simp only [Bool.or_eq_false_iff, Bool.not_eq_false'] at hc
    exact ⟨rfl, hc.1.2, m, hm m (List.mem_cons_self ..), rfl, rfl⟩
theorem wSeen_spec (T : List (List UInt8)) (I : List UInt8) (ms : List (Nat × List UInt8)) (N : List Sn) : ∃ D, (wSeen T I ms N).1 = N ++ D ∧ D.length = (wSeen T I ms N).2 ∧ ∀ s ∈ D, Came T I ms s := by
 obtain ⟨D, h1, h2⟩ := wFold_spec T I N ms ms [] (fun _ h => h) (fun _ h => by cases h)
 rw [List.append_nil] at h1
 have h3 : wSeen T I ms N = (N ++ D, D.length) := h1
 rw [h3]
 exact ⟨D, rfl, rfl, h2⟩
theorem wProve_spec {ds : List Nd} {T : List (List UInt8)} {N : List Sn} {h : Hd} {tot : Nat} {hs : List (List UInt8)} {fl : List UInt8} {L : List Sn} {k e : Nat} (hp : wProve ds T N h tot hs fl = (L, k, e)) :
  ∃ D, L = N ++ D ∧ D.length = k ∧ ((e = 0) ↔ ((tFind ds (hdId h)).isSome = true ∧ ∃ r, pExt tot hs fl = some r ∧ r.x = h.root)) ∧ (e ≠ 0 → D = []) ∧ ∀ r, pExt tot hs fl = some r → ∀ s ∈ D, Came T (hdId h) r.l s := by
 unfold wProve at hp
 generalize hdId h = I at *
 cases hf : tFind ds I with
 | none =>
  rw [hf] at hp
  simp only [Prod.mk.injEq] at hp
  obtain ⟨rfl, rfl, rfl⟩ := hp
  exact ⟨[], by simp, rfl, by simp, fun _ => rfl, fun r _ s hs => by cases hs⟩
 | some i =>
  rw [hf] at hp
  cases hx : pExt tot hs fl with
  | none =>
   rw [hx] at hp
   simp only [Prod.mk.injEq] at hp
   obtain ⟨rfl, rfl, rfl⟩ := hp
   exact ⟨[], by simp, rfl, by simp, fun _ => rfl, fun r h => by cases h⟩
  | some r =>
   rw [hx] at hp
   simp only at hp
   by_cases hr : r.x = h.root
   ·rw [if_pos hr] at hp
    simp only [Prod.mk.injEq] at hp
    obtain ⟨rfl, rfl, rfl⟩ := hp
    obtain ⟨D, h1, h2, h3⟩ := wSeen_spec T I r.l N
    refine ⟨D, h1, h2, ?_, fun h => absurd rfl h, fun r' hr' => by injection hr' with hr'; rw [← hr']; exact h3⟩
    simp [hr]
   ·rw [if_neg hr] at hp
    simp only [Prod.mk.injEq] at hp
    obtain ⟨rfl, rfl, rfl⟩ := hp
    refine ⟨[], by simp, rfl, ?_, fun _ => rfl, fun r _ s hs => by cases hs⟩
    simp [hr]
def xOut : Option PRes → List UInt8 × List (Nat × List UInt8) × Nat
 | none => (zs32, [], 13)
 | some r => (r.x, r.l, 0)
theorem ExtU {w0 w' : World} {ans : Option PRes} {e : Ending} (h : ExtPost w0 ans e w') :
  ∃ A c, e = .returned (.tuple #[.agg ((xOut ans).1.map bv).toArray, .slice A (xOut ans).2.1.length c, .int .i64 ((xOut ans).2.2 : Int)]) ∧ Rd w' A (mlc (xOut ans).2.1) ∧ Below w0.heap.size w0 w' := by
 obtain ⟨b, h⟩ := h
 cases ans with
 | none => exact ⟨none, 0, h, Rd.nil _ _, b⟩
 | some r => obtain ⟨A, c, he, _, _, hr⟩ := h; exact ⟨A, c, he, hr, b⟩
theorem xOut_bnd (hs : List (List UInt8)) (h32 : All32 hs) (tot : Nat) (fl : List UInt8) : (xOut (pExt tot hs fl)).1.length = 32 ∧ (∀ p ∈ (xOut (pExt tot hs fl)).2.1, p.2.length = 32) ∧ (xOut (pExt tot hs fl)).2.1.length ≤ hs.length := by
 cases hx : pExt tot hs fl with
 | none => exact ⟨rfl, (fun p (hp : p ∈ ([] : List (Nat × List UInt8))) => (List.not_mem_nil hp).elim), Nat.zero_le _⟩
 | some r =>
  unfold pExt at hx
  split at hx
  ·obtain ⟨hx, _⟩ := Option.filter_eq_some_iff.1 hx
   obtain ⟨_, _, _, p4, p5, p6, p7⟩ := pRd_bounds tot fl hs h32 _ _ _ _ _ hx
   exact ⟨p6, p7, by show r.l.length ≤ hs.length; omega⟩
  ·cases hx
theorem wProve_code {ds : List Nd} {T : List (List UInt8)} {N : List Sn} {h : Hd} {tot : Nat} {hs : List (List UInt8)} {fl : List UInt8} {L : List Sn} {k e : Nat} (hp : wProve ds T N h tot hs fl = (L, k, e)) :
  decide (e = 0) = ((tFind ds (hdId h)).isSome && (decide ((xOut (pExt tot hs fl)).2.2 = 0) && ((xOut (pExt tot hs fl)).1 == h.root))) := by
 obtain ⟨_, _, _, hc, _⟩ := wProve_spec hp
 rw [Bool.eq_iff_iff, decide_eq_true_iff, hc]
 cases hx : pExt tot hs fl with
 | none => simp [xOut]
 | some r => simp [xOut]
theorem wFold_len (T : List (List UInt8)) (I : List UInt8) : ∀ (ms : List (Nat × List UInt8)) (p : List Sn × Nat), (ms.foldl (wStep T I) p).2 ≤ p.2 + ms.length
 | [], p => Nat.le_refl _
 | m :: ms, p => by
  rw [List.foldl_cons]
  have h1 := wFold_len T I ms (wStep T I p m)
  have h2 : (wStep T I p m).2 ≤ p.2 + 1 := by
   unfold wStep
   split
   ·exact Nat.le_succ _
   ·exact Nat.le_refl _
  rw [List.length_cons]
  omega
theorem wProve_len {ds : List Nd} {T : List (List UInt8)} {N : List Sn} {h : Hd} {tot : Nat} {hs : List (List UInt8)} (h32 : All32 hs) {fl : List UInt8} {L : List Sn} {k e : Nat} (hp : wProve ds T N h tot hs fl = (L, k, e)) : k ≤ hs.length := by
 have hb := xOut_bnd hs h32 tot fl
 unfold wProve at hp
 split at hp
 ·injection hp with _ hp
  injection hp with hp _
  omega
 ·split at hp
  ·injection hp with _ hp
   injection hp with hp _
   omega
  ·rename_i r hx
   rw [hx] at hb
   split at hp
   ·injection hp with _ hp
    injection hp with hp _
    have h3 := wFold_len T (hdId h) r.l (N, 0)
    have h4 : (wSeen T (hdId h) r.l N).2 ≤ 0 + r.l.length := h3
    have h5 : r.l.length ≤ hs.length := hb.2.2
    omega
   ·injection hp with _ hp
    injection hp with hp _
    omega
end Go.Proofs.YtobjgebojhjhnaaDoor
namespace Go.Proofs.YtobjgebojhjhnaaDoor
open Go.RowKit
def EyeW (As At : Option Addr) (ns cs nt ct nn : Nat) (N : List Sn) : VP := fun v w => ∃ A' c', v = .agg (wtc As At A' ns cs nt ct nn c').toArray ∧ RdSns w A' N
theorem EyeW.mono {As At : Option Addr} {ns cs nt ct nn : Nat} {N : List Sn} {v : Value} {w w' : World} (h : Ext w w') : EyeW As At ns cs nt ct nn N v w → EyeW As At ns cs nt ct nn N v w' := by
 rintro ⟨A', c', rfl, r⟩
 exact ⟨A', c', rfl, r.below h⟩
def PrvW (As At : Option Addr) (ns cs nt ct : Nat) (L : List Sn) (k e : Nat) : VP := fun v w => ∃ A' n' c', v = .tuple #[.agg (wtc As At A' ns cs nt ct n' c').toArray, .int .i64 (k : Int), .int .i64 (e : Int)] ∧ L.length = n' ∧ RdSns w A' L
theorem PrvW.mono {As At : Option Addr} {ns cs nt ct : Nat} {L : List Sn} {k e : Nat} {v : Value} {w w' : World} (h : Ext w w') : PrvW As At ns cs nt ct L k e v w → PrvW As At ns cs nt ct L k e v w' := by
 rintro ⟨A', n', c', rfl, hl, r⟩
 exact ⟨A', n', c', rfl, hl, r.below h⟩
def WtW (As At : Option Addr) (ns cs nt ct : Nat) (L : List Sn) : VP := fun v w => ∃ A' n' c', v = .agg (wtc As At A' ns cs nt ct n' c').toArray ∧ L.length = n' ∧ RdSns w A' L
theorem WtW.mono {As At : Option Addr} {ns cs nt ct : Nat} {L : List Sn} {v : Value} {w w' : World} (h : Ext w w') : WtW As At ns cs nt ct L v w → WtW As At ns cs nt ct L v w' := by
 rintro ⟨A', n', c', rfl, hl, r⟩
 exact ⟨A', n', c', rfl, hl, r.below h⟩
def AlcW (b : Nat) : VP := fun v w => ∃ g, v = .pointer (some ⟨g, 0, none⟩) ∧ b ≤ g ∧ Av w g 42 [.slice none 0 0, .slice none 0 0, .slice none 0 0]
theorem AlcW.mono {b : Nat} {v : Value} {w w' : World} (h : Ext w w') : AlcW b v w → AlcW b v w' := by
 rintro ⟨g, rfl, hg, a⟩
 exact ⟨g, rfl, hg, a.below h⟩
theorem RdSns.off {w w' : World} {A : Option Addr} {L : List Sn} {g : Nat} {t : TypeId} (r : RdSns w A L) (a : Av w g t [.slice none 0 0, .slice none 0 0, .slice none 0 0]) (f : Fr (fun k => k = g) w w') : RdSns w' A L := by
 cases L with
 | nil => exact RdSns.nil _ _
 | cons s L =>
  refine ⟨f.rd r.1 ?_, r.2⟩
  rintro ad hA hg
  have sok := r.2 s (List.mem_cons_self ..)
  obtain ⟨b, off, hA2⟩ := r.adr (by simp)
  rw [hA] at hA2
  injection hA2 with hA2
  subst hA2
  rw [hA] at r
  have rs := (r.nth 0 s rfl).1
  have hid : ∃ x, s.id[0]? = some x := ⟨_, List.getElem?_eq_getElem (by rw [sok.1]; omega)⟩
  obtain ⟨x, hx⟩ := hid
  have h1 := rg_sn_id rs 0 (bv x) (by rw [List.getElem?_map, hx]; rfl)
  have hb : b = g := hg
  subst hb
  rw [cell_of_row w b _ _ t _ a] at h1
  simp only [Nat.zero_mul, Nat.add_zero, List.getElem?_toArray] at h1
  have hm := List.mem_of_getElem? h1
  simp [bv] at hm
section
variable {P : Program} {ops : Array Oper} {R : World → World → Prop} {Q : Exit → Act → World → Prop} {w0 : World} {L : List (Nat × VP)} {i : Nat} {o : Oper} {rest : List Oper} {l l' : List Value} {d : List Deferred}
theorem relSkipU (hL : L.lookup i = none) (hD : (L.all fun p => !lookOn ops o p.1) = true) (hw : Region.wanted o (yielded ops l.toArray) = false) {t : Nat} (ht : o.dst = some t)
  (hl : l.set t undef = l') (k : relWalk P ops R Q w0 L (i + 1) rest ⟨l'.toArray, d⟩) : relWalk P ops R Q w0 L i (o :: rest) ⟨l.toArray, d⟩ := by
 subst hl
 unfold relWalk
 rw [hL]
 refine ⟨undef, fun w hR => fill_none hD ?_, ?_⟩
 ·unfold relOp
  rw [hw]
  exact rfl
 ·rw [ht, put_lit]
  exact k
end
theorem wProve_came {ds : List Nd} {T : List (List UInt8)} {N : List Sn} {h : Hd} {tot : Nat} {hs : List (List UInt8)} {fl : List UInt8} {L : List Sn} {k e : Nat} (hp : wProve ds T N h tot hs fl = (L, k, e)) :
  ∃ D, L = N ++ D ∧ D.length = k ∧ (e ≠ 0 → k = 0) ∧ ∀ s ∈ D, Came T (hdId h) (xOut (pExt tot hs fl)).2.1 s := by
 obtain ⟨D, h1, h2, h3, h4, h5⟩ := wProve_spec hp
 refine ⟨D, h1, h2, fun he => by rw [← h2, h4 he]; rfl, fun s hsd => ?_⟩
 cases hx : pExt tot hs fl with
 | some r => exact h5 r hx s hsd
 | none =>
  have : e ≠ 0 := fun he => by
   obtain ⟨_, r, hr, _⟩ := h3.1 he
   rw [hx] at hr
   cases hr
  rw [h4 this] at hsd
  cases hsd
end Go.Proofs.YtobjgebojhjhnaaDoor
