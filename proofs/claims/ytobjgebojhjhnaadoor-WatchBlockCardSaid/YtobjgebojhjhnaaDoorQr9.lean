import Derived.Test.YtobjgebojhjhnaaDoorQr8
import Derived.Test.YtobjgebojhjhnaaDoorQr5
import Derived.Test.YtobjgebojhjhnaaDoorQr3
import Derived.Test.YtobjgebojhjhnaaDoorQr2
import Derived.Great.BuildSlice
namespace Go.Proofs.YtobjgebojhjhnaaDoor
open Go.RowKit
attribute [local go_sem high] slB_lh slB_l slB_h
theorem splice {α : Type} (a b x c : List α) (o : Nat) (ho : a.length = o) (hb : b.length = x.length) : (a ++ (b ++ c)).take o ++ x ++ (a ++ (b ++ c)).drop (o + x.length) = a ++ (x ++ c) := by
 subst ho
 rw [List.take_left', List.drop_append, List.drop_append]
 ·simp [← hb]
 ·rfl
theorem zeros_80 : Tryd.zeroCells122 = ((List.replicate 80 (0 : UInt8)).map bv).toArray := by kernel_rfl
theorem size_u8' : (Tryd.prog.info? 5).map (·.size) = some 1 := by kernel_rfl
theorem zero_cut : (List.replicate 80 (0 : UInt8)).map bv = [] ++ ((List.replicate 4 (0 : UInt8)).map bv ++ ((List.replicate 32 (0 : UInt8)).map bv ++ ((List.replicate 32 (0 : UInt8)).map bv ++ ((List.replicate 4 (0 : UInt8)).map bv ++ ((List.replicate 4 (0 : UInt8)).map bv ++ (List.replicate 4 (0 : UInt8)).map bv))))) := rfl
set_option maxRecDepth 100000 in
set_option maxHeartbeats 2000000 in
theorem HdArr (h : Hd) (k : h.ok) (w : World) :
  Calls Tryd.prog 40 #[.agg (hdc h).toArray] w fun e w' => e = .returned (.agg (hcs (hdB h))) ∧ Below w.heap.size w w' := by
 have hz := zeros_80
 have hzl : (List.replicate 80 (0 : UInt8)).length = 80 := by simp
 have hzc := zero_cut
 obtain ⟨zs, hzs⟩ : ∃ zs : List UInt8, zs = List.replicate 80 0 := ⟨_, rfl⟩
 rw [← hzs] at hz hzl hzc
 clear hzs
 have l4 : ((List.replicate 4 (0 : UInt8)).map bv).length = 4 := rfl
 have l32 : ((List.replicate 32 (0 : UInt8)).map bv).length = 32 := rfl
 generalize (List.replicate 4 (0 : UInt8)).map bv = Z4 at *
 generalize (List.replicate 32 (0 : UInt8)).map bv = Z32 at *
 obtain ⟨W, hW⟩ : ∃ W, W = (((w.alloc (.cells (hdc h).toArray 32)).alloc (.cells (zs.map bv).toArray 122)).alloc (.cells (zs.map bv).toArray 122)) := ⟨_, rfl⟩
 obtain ⟨H, hH⟩ : ∃ H, H = w.heap.size := ⟨_, rfl⟩
 have bW : Below H w W := by rw [hW, hH]; exact (((Below.refl _ _).alloc (Nat.le_refl _) _).alloc (by simp) _).alloc (by simp; omega) _
 have aW : Av W H 32 (hdc h) := by rw [hW, hH]; exact Av.alloc (heap_alloc2_old _ _ _) _
 have rW : Av W (H + 1) 122 (zs.map bv) := by rw [hW, hH]; exact Av.alloc (heap_alloc2_new _ _ _) _
 have oW : Av W (H + 2) 122 (zs.map bv) := by
  have e : ∀ (v : World) (o : Obj), (v.alloc o).heap.size = v.heap.size + 1 := fun v o => by simp
  have := heap_alloc_new ((w.alloc (.cells (hdc h).toArray 32)).alloc (.cells (zs.map bv).toArray 122)) (.cells (zs.map bv).toArray 122)
  rw [e, e] at this
  rw [hW, hH]; exact this
 rw [hzc] at oW
 obtain ⟨c0, c3, c4, c5⟩ := hdc_at k
 have k1 : (h.prev.map bv).length = 32 := by rw [List.length_map, k.2.1]
 have k2 : (h.root.map bv).length = 32 := by rw [List.length_map, k.2.2.1]
 have hres : (hdB h).map bv = (Cm.lo 4 h.ver).map bv ++ (h.prev.map bv ++ (h.root.map bv ++ ((Cm.lo 4 h.time).map bv ++ ((Cm.lo 4 h.bits).map bv ++ (Cm.lo 4 h.nonce).map bv)))) := by simp [hdB]
 have hB80 := hdB_length k
 have m4 : ∀ n, ((Cm.lo 4 n).map bv).length = 4 := fun n => by rw [List.length_map, Cm.lo_length]
 obtain ⟨V, hV⟩ : ∃ V, V = hdB h := ⟨_, rfl⟩
 rw [← hV] at hres hB80 ⊢
 have hN : ∃ n0 n3 n4 n5 : Nat, h.ver = n0 ∧ h.time = n3 ∧ h.bits = n4 ∧ h.nonce = n5 := ⟨_, _, _, _, rfl, rfl, rfl, rfl⟩
 obtain ⟨n0, n3, n4, n5, e0, e3, e4, e5⟩ := hN
 rw [e0] at c0 hres
 rw [e3] at c3 hres
 rw [e4] at c4 hres
 rw [e5] at c5 hres
 replace hV := Lib.hid hV
 replace hW := Lib.hid hW
 replace hH := Lib.hid hH
 replace hzl := Lib.hid hzl
 replace hzc := Lib.hid hzc
 replace hres := Lib.hid hres
 replace l4 := Lib.hid l4
 replace l32 := Lib.hid l32
 replace k1 := Lib.hid k1
 replace k2 := Lib.hid k2
 replace m4 := Lib.hid m4
 replace hB80 := Lib.hid hB80
 clear e0 e3 e4 e5
 go_enter Tryd.func40, Tryd.ntmps40
 go_upto_region 2 with fail
 rw [← hW.out, ← hH.out]
 have fr0 : Fr (fun k => k = H + 2) W W := Fr.refl _ _
 refine wp_region_relT 3 [] Ext (by kernel_rfl) (by kernel_rfl) (by kernel_rfl) (by kernel_rfl) (by kernel_rfl) Ext.refl Ext.trans (by intro p hp; cases hp) ?_
 refine ZP (c := .slice (some ⟨H + 2, 0, none⟩) 80 80) (fun w _ => by go_simp; first | done | rfl) ?_
 refine ZP (fun w _ => by go_simp; first | done | rfl) ?_
 refine ZP (c := .int .u32 (n0 : Int)) (fun w hw => by have := (((fr0.av aW (by omega)).below hw.drew).cell 0 _ c0); go_simp; first | done | rfl) ?_
 refine relEnd fun v1 hv1 => fill_end ?_
 have g1 : Av v1 (H + 2) 122 ([] ++ (Z4 ++ (Z32 ++ (Z32 ++ (Z4 ++ (Z4 ++ (Z4))))))) := by
  have := oW.below hv1.drew
  simpa only [List.append_assoc, List.append_nil, List.nil_append] using this
 have f1' : Fr (fun k => k = H + 2) W v1 := fr0.trans (Below.fr hv1.drew)
 simp only [List.drop_succ_cons, List.drop_zero]
 go_upto_region 3 with (go_at_call 69; refine (Lay (H + 2) 0 80 80 122 ([]) Z4 (Z32 ++ (Z32 ++ (Z4 ++ (Z4 ++ (Z4))))) (rfl) l4.out (by omega) n0 v1 g1).mono ?_; rintro e w1 ⟨⟨r, rfl⟩, q1, x1⟩)
 have y1 : Fr (fun k => k = H + 2) W w1 := f1'.trans x1
 have a1 : Av w1 (H + 2) 122 ((Cm.lo 4 n0).map bv ++ (Z32 ++ (Z32 ++ (Z4 ++ (Z4 ++ (Z4)))))) := by simpa only [List.append_assoc, List.append_nil, List.nil_append] using q1
 clear g1 q1 f1' x1
 go_wp2_with fail
 refine wp_region_relT 3 [] Ext (by kernel_rfl) (by kernel_rfl) (by kernel_rfl) (by kernel_rfl) (by kernel_rfl) Ext.refl Ext.trans (by intro p hp; cases hp) ?_
 refine ZP (c := .slice (some ⟨H + 2, 4, none⟩) 76 76) (fun w _ => by go_simp; first | done | rfl) ?_
 refine ZP (fun w _ => by go_simp; first | done | rfl) ?_
 refine ZP (c := .slice (some ⟨H, 1, none⟩) 32 32) (fun w _ => by go_simp; first | done | rfl) ?_
 refine relEnd fun v2 hv2 => fill_end ?_
 have g2 : Av v2 (H + 2) 122 ((Cm.lo 4 n0).map bv ++ (Z32 ++ (Z32 ++ (Z4 ++ (Z4 ++ (Z4)))))) := by
  have := a1.below hv2.drew
  simpa only [List.append_assoc, List.append_nil, List.nil_append] using this
 have f2' : Fr (fun k => k = H + 2) W v2 := y1.trans (Below.fr hv2.drew)
 simp only [List.drop_succ_cons, List.drop_zero]
 (refine wpList_copyF g2 5 Tryd.underlying33 size_u8' 4 76 76 (some ⟨H, 1, none⟩) 32 32 (h.prev.map bv) (rd_of_range (Av.hd_prev (f2'.av aW (by omega)))) (k1.out) (by rw [k1.out]; simp only [List.length_append, l4.out, l32.out, m4.out]; omega) (by intro u hu; obtain ⟨_, _, rfl⟩ := List.mem_map.1 hu; rfl) rfl rfl ?_; intro w2 q2 x2; rw [splice _ _ _ _ 4 (by simp only [m4.out]) (by rw [l32.out, k1.out])] at q2)
 have y2 : Fr (fun k => k = H + 2) W w2 := f2'.trans x2
 have a2 : Av w2 (H + 2) 122 ((Cm.lo 4 n0).map bv ++ (h.prev.map bv ++ (Z32 ++ (Z4 ++ (Z4 ++ (Z4)))))) := by simpa only [List.append_assoc, List.append_nil, List.nil_append] using q2
 clear g2 q2 f2' x2
 go_wp2_with fail
 refine wp_region_relT 3 [] Ext (by kernel_rfl) (by kernel_rfl) (by kernel_rfl) (by kernel_rfl) (by kernel_rfl) Ext.refl Ext.trans (by intro p hp; cases hp) ?_
 refine ZP (c := .slice (some ⟨H + 2, 36, none⟩) 44 44) (fun w _ => by go_simp; first | done | rfl) ?_
 refine ZP (fun w _ => by go_simp; first | done | rfl) ?_
 refine ZP (c := .slice (some ⟨H, 33, none⟩) 32 32) (fun w _ => by go_simp; first | done | rfl) ?_
 refine relEnd fun v3 hv3 => fill_end ?_
 have g3 : Av v3 (H + 2) 122 ((Cm.lo 4 n0).map bv ++ (h.prev.map bv) ++ (Z32 ++ (Z4 ++ (Z4 ++ (Z4))))) := by
  have := a2.below hv3.drew
  simpa only [List.append_assoc, List.append_nil, List.nil_append] using this
 have f3' : Fr (fun k => k = H + 2) W v3 := y2.trans (Below.fr hv3.drew)
 simp only [List.drop_succ_cons, List.drop_zero]
 (refine wpList_copyF g3 5 Tryd.underlying33 size_u8' 36 44 44 (some ⟨H, 33, none⟩) 32 32 (h.root.map bv) (rd_of_range (Av.hd_root k (f3'.av aW (by omega)))) (k2.out) (by rw [k2.out]; simp only [List.length_append, l4.out, l32.out, m4.out, k1.out]; omega) (by intro u hu; obtain ⟨_, _, rfl⟩ := List.mem_map.1 hu; rfl) rfl rfl ?_; intro w3 q3 x3; rw [splice _ _ _ _ 36 (by simp only [List.length_append, k1.out, m4.out]) (by rw [l32.out, k2.out])] at q3)
 have y3 : Fr (fun k => k = H + 2) W w3 := f3'.trans x3
 have a3 : Av w3 (H + 2) 122 ((Cm.lo 4 n0).map bv ++ (h.prev.map bv ++ (h.root.map bv ++ (Z4 ++ (Z4 ++ (Z4)))))) := by simpa only [List.append_assoc, List.append_nil, List.nil_append] using q3
 clear g3 q3 f3' x3
 go_wp2_with fail
 refine wp_region_relT 3 [] Ext (by kernel_rfl) (by kernel_rfl) (by kernel_rfl) (by kernel_rfl) (by kernel_rfl) Ext.refl Ext.trans (by intro p hp; cases hp) ?_
 refine ZP (c := .slice (some ⟨H + 2, 68, none⟩) 12 12) (fun w _ => by go_simp; first | done | rfl) ?_
 refine ZP (fun w _ => by go_simp; first | done | rfl) ?_
 refine ZP (c := .int .u32 (n3 : Int)) (fun w hw => by have := (((y3.av aW (by omega)).below hw.drew).cell 65 _ c3); go_simp; first | done | rfl) ?_
 refine relEnd fun v4 hv4 => fill_end ?_
 have g4 : Av v4 (H + 2) 122 ((Cm.lo 4 n0).map bv ++ (h.prev.map bv ++ (h.root.map bv)) ++ (Z4 ++ (Z4 ++ (Z4)))) := by
  have := a3.below hv4.drew
  simpa only [List.append_assoc, List.append_nil, List.nil_append] using this
 have f4' : Fr (fun k => k = H + 2) W v4 := y3.trans (Below.fr hv4.drew)
 simp only [List.drop_succ_cons, List.drop_zero]
 go_upto_region 6 with (go_at_call 69; refine (Lay (H + 2) 68 12 12 122 ((Cm.lo 4 n0).map bv ++ (h.prev.map bv ++ (h.root.map bv))) Z4 (Z4 ++ (Z4)) (by simp only [List.length_append, k1.out, k2.out, m4.out]) l4.out (by omega) n3 v4 g4).mono ?_; rintro e w4 ⟨⟨r, rfl⟩, q4, x4⟩)
 have y4 : Fr (fun k => k = H + 2) W w4 := f4'.trans x4
 have a4 : Av w4 (H + 2) 122 ((Cm.lo 4 n0).map bv ++ (h.prev.map bv ++ (h.root.map bv ++ ((Cm.lo 4 n3).map bv ++ (Z4 ++ (Z4)))))) := by simpa only [List.append_assoc, List.append_nil, List.nil_append] using q4
 clear g4 q4 f4' x4
 go_wp2_with fail
 refine wp_region_relT 3 [] Ext (by kernel_rfl) (by kernel_rfl) (by kernel_rfl) (by kernel_rfl) (by kernel_rfl) Ext.refl Ext.trans (by intro p hp; cases hp) ?_
 refine ZP (c := .slice (some ⟨H + 2, 72, none⟩) 8 8) (fun w _ => by go_simp; first | done | rfl) ?_
 refine ZP (fun w _ => by go_simp; first | done | rfl) ?_
 refine ZP (c := .int .u32 (n4 : Int)) (fun w hw => by have := (((y4.av aW (by omega)).below hw.drew).cell 66 _ c4); go_simp; first | done | rfl) ?_
 refine relEnd fun v5 hv5 => fill_end ?_
 have g5 : Av v5 (H + 2) 122 ((Cm.lo 4 n0).map bv ++ (h.prev.map bv ++ (h.root.map bv ++ ((Cm.lo 4 n3).map bv))) ++ (Z4 ++ (Z4))) := by
  have := a4.below hv5.drew
  simpa only [List.append_assoc, List.append_nil, List.nil_append] using this
 have f5' : Fr (fun k => k = H + 2) W v5 := y4.trans (Below.fr hv5.drew)
 simp only [List.drop_succ_cons, List.drop_zero]
 go_upto_region 7 with (go_at_call 69; refine (Lay (H + 2) 72 8 8 122 ((Cm.lo 4 n0).map bv ++ (h.prev.map bv ++ (h.root.map bv ++ ((Cm.lo 4 n3).map bv)))) Z4 (Z4) (by simp only [List.length_append, k1.out, k2.out, m4.out]) l4.out (by omega) n4 v5 g5).mono ?_; rintro e w5 ⟨⟨r, rfl⟩, q5, x5⟩)
 have y5 : Fr (fun k => k = H + 2) W w5 := f5'.trans x5
 have a5 : Av w5 (H + 2) 122 ((Cm.lo 4 n0).map bv ++ (h.prev.map bv ++ (h.root.map bv ++ ((Cm.lo 4 n3).map bv ++ ((Cm.lo 4 n4).map bv ++ (Z4)))))) := by simpa only [List.append_assoc, List.append_nil, List.nil_append] using q5
 clear g5 q5 f5' x5
 go_wp2_with fail
 refine wp_region_relT 3 [] Ext (by kernel_rfl) (by kernel_rfl) (by kernel_rfl) (by kernel_rfl) (by kernel_rfl) Ext.refl Ext.trans (by intro p hp; cases hp) ?_
 refine ZP (c := .slice (some ⟨H + 2, 76, none⟩) 4 4) (fun w _ => by go_simp; first | done | rfl) ?_
 refine ZP (fun w _ => by go_simp; first | done | rfl) ?_
 refine ZP (c := .int .u32 (n5 : Int)) (fun w hw => by have := (((y5.av aW (by omega)).below hw.drew).cell 67 _ c5); go_simp; first | done | rfl) ?_
 refine relEnd fun v6 hv6 => fill_end ?_
 have g6 : Av v6 (H + 2) 122 ((Cm.lo 4 n0).map bv ++ (h.prev.map bv ++ (h.root.map bv ++ ((Cm.lo 4 n3).map bv ++ ((Cm.lo 4 n4).map bv)))) ++ (Z4 ++ ([]))) := by
  have := a5.below hv6.drew
  simpa only [List.append_assoc, List.append_nil, List.nil_append] using this
 have f6' : Fr (fun k => k = H + 2) W v6 := y5.trans (Below.fr hv6.drew)
 simp only [List.drop_succ_cons, List.drop_zero]
 go_upto_region 8 with (go_at_call 69; refine (Lay (H + 2) 76 4 4 122 ((Cm.lo 4 n0).map bv ++ (h.prev.map bv ++ (h.root.map bv ++ ((Cm.lo 4 n3).map bv ++ ((Cm.lo 4 n4).map bv))))) Z4 ([]) (by simp only [List.length_append, k1.out, k2.out, m4.out]) l4.out (by omega) n5 v6 g6).mono ?_; rintro e w6 ⟨⟨r, rfl⟩, q6, x6⟩)
 have y6 : Fr (fun k => k = H + 2) W w6 := f6'.trans x6
 have a6 : Av w6 (H + 2) 122 ((Cm.lo 4 n0).map bv ++ (h.prev.map bv ++ (h.root.map bv ++ ((Cm.lo 4 n3).map bv ++ ((Cm.lo 4 n4).map bv ++ ((Cm.lo 4 n5).map bv)))))) := by simpa only [List.append_assoc, List.append_nil, List.nil_append] using q6
 clear g6 q6 f6' x6
 rw [← hres.out] at a6
 have b6 : Below H w w6 := bW.trans (y6.below (fun k hk => by omega) (by rw [hH.out]; exact bW.size))
 have r6 := y6.av rW (by omega)
 have hV80 : (V.map bv).length = 80 := by rw [List.length_map, hB80.out]
 go_wp2_with (first
  | ((with_reducible refine wpList_loadF 122 a6 ?_ _ 80 hV80 Tryd.underlying122 ?_ ?_ ?_); rfl; rfl; kernel_rfl)
  | ((with_reducible refine wpList_storeFA 122 b6 r6 (Nat.le_succ _) (V.map bv) ?_ ?_ 80 hV80 ?_ ?_ ?_ ?_); rfl; rfl; kernel_rfl; (rw [List.length_map]; exact hzl.out); (simp [Value.oneCell']); intro w7 a7 b7 k7 z7))
 refine bodyPost_ret (results_cell_row rfl _ _ (H + 1) _ _ (0, 0) _ (by rfl) a7 Tryd.underlying122 rfl (by rw [List.size_toArray, hV80]; kernel_rfl)) rfl ⟨rfl, ?_⟩
 rw [← hH.out]
 exact b7
set_option maxRecDepth 100000 in
set_option maxHeartbeats 2000000 in
theorem HdId (h : Hd) (k : h.ok) (w : World) (ht : Tabs w) :
  Calls Tryd.prog 17 #[.agg (hdc h).toArray] w fun e w' => e = .returned (.agg (hcs (hdId h))) ∧ Below w.heap.size w w' := by
 have hz := zeros_80
 have hzl : (List.replicate 80 (0 : UInt8)).length = 80 := by simp
 obtain ⟨zs, hzs⟩ : ∃ zs : List UInt8, zs = List.replicate 80 0 := ⟨_, rfl⟩
 rw [← hzs] at hz hzl
 clear hzs
 have HA := Lib.hid (HdArr h k)
 have hV80 : ((hdB h).map bv).length = 80 := by rw [List.length_map, hdB_length k]
 have h68 := hdc_length k
 have yz := zeros_32
 have yl : (List.replicate 32 (0 : UInt8)).length = 32 := by simp
 obtain ⟨ys, hys⟩ : ∃ zs : List UInt8, zs = List.replicate 32 0 := ⟨_, rfl⟩
 rw [← hys] at yz yl
 clear hys
 obtain ⟨V, hV⟩ : ∃ V, V = hdB h := ⟨_, rfl⟩
 rw [← hV] at HA hV80
 rw [hdId, ← hV]
 obtain ⟨dd, hdd⟩ : ∃ l, l = dblB V := ⟨_, rfl⟩
 have hdl : dd.length = 32 := by rw [hdd, dblB_length]
 rw [← hdd]
 have HD := fun A w' q t => Double V A 80 80 (by rw [← hV80, List.length_map]) (Nat.le_refl _) (by omega) w' q t
 rw [← hdd] at HD
 replace HD := Lib.hid HD
 obtain ⟨W, hW⟩ : ∃ W, W = (w.alloc (.cells (hdc h).toArray 32)).alloc (.cells (ys.map bv).toArray 30) := ⟨_, rfl⟩
 obtain ⟨H, hH⟩ : ∃ H, H = w.heap.size := ⟨_, rfl⟩
 have bW : Below w.heap.size w W := by rw [hW]; exact ((Below.refl _ _).alloc (Nat.le_refl _) _).alloc (by simp) _
 have aW : Av W H 32 (hdc h) := by rw [hW, hH]; exact heap_alloc2_old _ _ _
 have rW : Av W (H + 1) 30 (ys.map bv) := by rw [hW, hH]; exact heap_alloc2_new _ _ _
 replace hV := Lib.hid hV
 replace hW := Lib.hid hW
 replace hH := Lib.hid hH
 replace hzl := Lib.hid hzl
 replace yl := Lib.hid yl
 replace hdd := Lib.hid hdd
 replace hdl := Lib.hid hdl
 replace hV80 := Lib.hid hV80
 replace h68 := Lib.hid h68
 go_enter Tryd.func17, Tryd.ntmps17
 go_upto_region 1 with fail
 rw [← hW.out, ← hH.out]
 go_upto_region 2 with (first
  | ((with_reducible refine wpList_loadF 32 aW ?_ _ 68 h68.out Tryd.underlying32 ?_ ?_ ?_); rfl; rfl; kernel_rfl)
  | (go_at_call 40; refine (HA.out _).mono ?_; rintro e w1 ⟨rfl, b1⟩)
  | ((with_reducible refine wpList_storeF 122 ((Below.refl w1.heap.size w1).alloc (Nat.le_refl _) _) (heap_alloc_new _ _) (Nat.le_refl _) (V.map bv) ?_ ?_ 80 hV80.out ?_ ?_ ?_ ?_); rfl; rfl; kernel_rfl; (rw [List.size_toArray, List.length_map]; exact hzl.out); (simp [Value.oneCell']); intro w2 a2 b2 k2 z2; clear k2; replace z2 := Lib.hid z2))
 have bw2 : Below w.heap.size w w2 := bW.trans ((b1.trans (b2.mono b1.size)).mono bW.size)
 have a2r := a2.rd
 have r2 := (rW.below b1).below b2
 have hH1 : w.heap.size ≤ H + 1 := by rw [hH.out]; omega
 go_wp2_with fail
 refine (HD.out _ w2 a2r (ht.below bw2)).mono ?_
 rintro e w3 ⟨rfl, b3⟩
 have bw3 := bw2.trans (b3.mono bw2.size)
 have r3 := r2.below b3
 go_wp2_with ((with_reducible refine wpList_storeFA 30 bw3 r3 hH1 (dd.map bv) ?_ ?_ 32 ?_ ?_ ?_ ?_ ?_); rfl; rfl; (rw [List.length_map, hdl.out]); kernel_rfl; (rw [List.length_map]; exact yl.out); (simp [Value.oneCell']); intro w6 a6 b6 k6 z6)
 refine bodyPost_ret (results_cell_row rfl _ _ (H + 1) _ _ (0, 0) _ (by rfl) a6 Tryd.underlying30 rfl (by rw [List.size_toArray, List.length_map, hdl.out]; kernel_rfl)) rfl ⟨rfl, b6⟩
end Go.Proofs.YtobjgebojhjhnaaDoor
namespace Go.Proofs.YtobjgebojhjhnaaDoor
open Go.RowKit
instance : Inhabited Hd := ⟨⟨0, [], [], 0, 0, 0⟩⟩
def hdl (l : List Hd) : List Value := l.flatMap hdc
def OkHds (l : List Hd) : Prop := ∀ h ∈ l, h.ok
def RdHds (w : World) (A : Option Addr) (l : List Hd) : Prop := Rd w A (hdl l) ∧ OkHds l
theorem RdHds.below {w w' : World} {A : Option Addr} {l : List Hd} (h : RdHds w A l) (b : Below w.heap.size w w') : RdHds w' A l := ⟨h.1.below b, h.2⟩
theorem hdl_len {l : List Hd} (h : OkHds l) : (hdl l).length = l.length * 68 := flat_length hdc 68 l fun e he => hdc_length (h e he)
theorem RdHds.adr {w : World} {A : Option Addr} {l : List Hd} (h : RdHds w A l) (hl : 0 < l.length) : ∃ b off, A = some ⟨b, off, none⟩ := by
 refine h.1.someA fun e => ?_
 have := hdl_len h.2
 rw [e, List.length_nil] at this
 omega
theorem RdHds.nth {w : World} {b off : Nat} {l : List Hd} (h : RdHds w (some ⟨b, off, none⟩) l) (k : Nat) (e : Hd) (hk : l[k]? = some e) : w.rangeAt b (off + k * 68) (hdc e) ∧ e.ok :=
 ⟨Rd.piece hdc 68 l (fun e he => hdc_length (h.2 e he)) h.1 k e hk, h.2 e (List.mem_of_getElem? hk)⟩
end Go.Proofs.YtobjgebojhjhnaaDoor
namespace Go.Proofs.YtobjgebojhjhnaaDoor
open Go.RowKit
def hcl (l : List (List UInt8)) : List Value := l.flatMap fun x => x.map bv
def All32 (l : List (List UInt8)) : Prop := ∀ x ∈ l, x.length = 32
theorem hcl_cons (x : List UInt8) (l : List (List UInt8)) : hcl (x :: l) = x.map bv ++ hcl l := rfl
theorem hcl_append (l k : List (List UInt8)) : hcl (l ++ k) = hcl l ++ hcl k := by simp [hcl]
theorem hcl_one (x : List UInt8) : hcl [x] = x.map bv := by simp [hcl]
theorem All32.tail {x : List UInt8} {l : List (List UInt8)} (h : All32 (x :: l)) : All32 l := fun y hy => h y (List.mem_cons_of_mem _ hy)
theorem All32.get {l : List (List UInt8)} (h : All32 l) (i : Nat) (hi : i < l.length) : (l.getD i []).length = 32 := by
 rw [List.getD_eq_getElem?_getD, List.getElem?_eq_getElem hi]
 exact h _ (List.getElem_mem hi)
theorem All32.append {l k : List (List UInt8)} (h : All32 l) (h' : All32 k) : All32 (l ++ k) := fun x hx => (List.mem_append.1 hx).elim (h x) (h' x)
theorem All32.one {x : List UInt8} (h : x.length = 32) : All32 [x] := fun y hy => by rw [List.mem_singleton.1 hy]; exact h
theorem hcl_length {l : List (List UInt8)} (h : All32 l) : (hcl l).length = 32 * l.length := by
 induction l with
 | nil => rfl
 | cons x l ih => rw [hcl_cons, List.length_append, List.length_map, ih h.tail, h x (List.mem_cons_self ..), List.length_cons]; omega
theorem hcl_get {l : List (List UInt8)} (h : All32 l) (i j : Nat) (hi : i < l.length) (hj : j < 32) : (hcl l)[32 * i + j]? = ((l.getD i []).map bv)[j]? := by
 induction l generalizing i with
 | nil => simp at hi
 | cons x l ih =>
  have hx := h x (List.mem_cons_self ..)
  cases i with
  | zero => rw [hcl_cons, Nat.mul_zero, Nat.zero_add, List.getElem?_append_left (by rw [List.length_map, hx]; exact hj)]; rfl
  | succ i =>
   rw [hcl_cons, List.getElem?_append_right (by rw [List.length_map, hx]; omega), List.length_map, hx, show 32 * (i + 1) + j - 32 = 32 * i + j by omega, ih h.tail i (by simpa using hi)]
   rfl
theorem hcl_one' (l : List (List UInt8)) : ∀ u ∈ hcl l, u.oneCell' = true := by
 intro u hu
 simp only [hcl, List.mem_flatMap, List.mem_map] at hu
 obtain ⟨_, _, b, _, rfl⟩ := hu
 rfl
theorem Rd.hash {w : World} {b off : Nat} {l : List (List UInt8)} (h : Rd w (some ⟨b, off, none⟩) (hcl l)) (h32 : All32 l) (i : Nat) (hi : i < l.length) : w.rangeAt b (off + i * 32) ((l.getD i []).map bv) := by
 intro j v hv
 have hj : j < 32 := by
  have := (List.getElem?_eq_some_iff.1 hv).1
  rw [List.length_map, h32.get i hi] at this
  exact this
 rw [← hcl_get h32 i j hi hj] at hv
 rcases h with h | ⟨b', off', hA, hc⟩
 ·rw [h] at hv; simp at hv
 ·cases hA
  rw [show off + i * 32 + j = off + (32 * i + j) by omega]
  exact hc _ _ hv
theorem hcl_ne {l : List (List UInt8)} (h : All32 l) (hl : 0 < l.length) : hcl l ≠ [] := fun e => by
 have := hcl_length h
 rw [e] at this
 simp at this
 omega
theorem info_h : (Tryd.prog.info? 30).map (fun i => (i.size, i.bytes)) = some (32, 32) := by kernel_rfl
theorem zero_h : (Tryd.prog.info? 30).map (fun i => (i.zero.map (·.cells))) = some (some (Array.replicate 32 (.int .u8 0))) := by kernel_rfl
theorem wpList_appH {w0 w : World} {base : Nat} {v : Value} {n : Nat} {xs : List (List UInt8)} (hown : w.ownsRow base 30 32 v n (hcl xs)) (hb : Below base w0 w) (hbase : base ≤ w.heap.size)
  {A : Option Addr} {l : List (List UInt8)} (h32 : All32 l) (m c : Nat) (hr : Rd w A (hcl l)) (hl : l.length = m) (hm : (n + m) * 32 ≤ 140737488355328)
  {ops : Array Oper} {rest : List Oper} {o : Oper} {a : Act} {Q : Exit → Act → World → Prop} (hgd : o.guard = none) (s x : Operand)
  (ho : o.op = .call { callee := .builtin .append, args := #[s, x], argTypes := #[23, 23] })
  (hs : a.eval s = v) (hx : a.eval x = .slice A m c)
  (h : ∀ v' w', w'.ownsRow base 30 32 v' (n + m) (hcl (xs ++ l)) → Below base w0 w' → w.heap.size ≤ w'.heap.size → w.grownBy w' v.ownBlock → (v'.ownBlock = v.ownBlock ∨ v'.ownBlock = some w.heap.size) → wpList Tryd.prog ops Q rest (a.put o.dst v') w') : wpList Tryd.prog ops Q (o :: rest) a w := by
 obtain ⟨i0, hi, hz⟩ := Option.map_eq_some_iff.1 info_h
 obtain ⟨i1, hi1, hz1⟩ := Option.map_eq_some_iff.1 zero_h
 obtain rfl : i1 = i0 := by rw [hi] at hi1; exact (Option.some.inj hi1).symm
 obtain ⟨z, hz2, hz3⟩ := Option.map_eq_some_iff.1 hz1
 injection hz with hz4 hz5
 refine wpList_append_rd w hgd s x 23 ho base 30 i1 z 32 32 Tryd.underlying23 hi hz2 hz4 hz5 (by rw [hz3]; simp) (by decide) v n (hcl xs) hs hown
  A m c (hcl l) hx (by rw [hcl_length h32, hl]; omega) hr (hcl_one' l) (by simp only [maxLen]; omega) hm hbase ?_
 intro v' w' h1 h2 h3
 refine h v' w' ?_ (own_app hb hown h2 hbase) h2.size h2 h3
 rw [hcl_append]
 exact h1
end Go.Proofs.YtobjgebojhjhnaaDoor
namespace Go.Proofs.YtobjgebojhjhnaaDoor
open Go.RowKit
attribute [local go_sem high] slB_lh slB_l slB_h nilB_eq
def pairB (a b : List UInt8) : List UInt8 := dblB (a ++ b)
theorem pairB_length (a b : List UInt8) : (pairB a b).length = 32 := dblB_length _
set_option maxRecDepth 10000 in
set_option maxHeartbeats 1000000 in
theorem Pair (a b : List UInt8) (ha : a.length = 32) (hb : b.length = 32) (w : World) (ht : Tabs w) :
    Calls Tryd.prog 67 #[.agg (hcs a), .agg (hcs b)] w fun e w' => e = .returned (.agg (hcs (pairB a b))) ∧ Below w.heap.size w w' := by
  have hz := zeros_32
  have hzl : (List.replicate 32 (0 : UInt8)).length = 32 := by simp
  obtain ⟨zs, hzs⟩ : ∃ zs : List UInt8, zs = List.replicate 32 0 := ⟨_, rfl⟩
  rw [← hzs] at hz hzl
  clear hzs
  replace hzl := Lib.hid hzl
  obtain ⟨dd, hdd⟩ : ∃ l, l = dblB (a ++ b) := ⟨_, rfl⟩
  have hdl : dd.length = 32 := by rw [hdd, dblB_length]
  rw [pairB, ← hdd]
  replace hdd := Lib.hid hdd
  replace hdl := Lib.hid hdl
  replace ha := Lib.hid ha
  replace hb := Lib.hid hb
  obtain ⟨mk, hmks, hmk⟩ := made_ex 64 64 rfl (by omega)
  replace hmks := Lib.hid hmks
  have hle1 : ([] : List UInt8).length + 32 ≤ 140737488355328 := by simp
  have hle2 : a.length + 32 ≤ 140737488355328 := by rw [ha.out]; omega
  go_enter Tryd.func67, Tryd.ntmps67
  have b0 : Below w.heap.size w (((w.alloc (.cells (a.map bv).toArray 30)).alloc (.cells (b.map bv).toArray 30)).alloc (.cells (zs.map bv).toArray 30)) := (((Below.refl _ _).alloc (Nat.le_refl _) _).alloc (by simp) _).alloc (by simp; omega) _
  have a0 : Av (((w.alloc (.cells (a.map bv).toArray 30)).alloc (.cells (b.map bv).toArray 30)).alloc (.cells (zs.map bv).toArray 30)) w.heap.size 30 (a.map bv) := Av.alloc (heap_alloc2_old _ _ _) _
  have a1 : Av (((w.alloc (.cells (a.map bv).toArray 30)).alloc (.cells (b.map bv).toArray 30)).alloc (.cells (zs.map bv).toArray 30)) (w.heap.size + 1) 30 (b.map bv) := Av.alloc (heap_alloc2_new _ _ _) _
  have a2 : Av (((w.alloc (.cells (a.map bv).toArray 30)).alloc (.cells (b.map bv).toArray 30)).alloc (.cells (zs.map bv).toArray 30)) (w.heap.size + 1 + 1) 30 (zs.map bv) := by
    have := heap_alloc_new ((w.alloc (.cells (a.map bv).toArray 30)).alloc (.cells (b.map bv).toArray 30)) (.cells (zs.map bv).toArray 30)
    have e : ∀ (v : World) (o : Obj), (v.alloc o).heap.size = v.heap.size + 1 := fun v o => by simp
    rw [e, e] at this
    exact this
  go_upto_region 1 with fail
  generalize ((w.alloc (.cells (a.map bv).toArray 30)).alloc (.cells (b.map bv).toArray 30)).alloc (.cells (zs.map bv).toArray 30) = w0 at *
  have hmade := OwnB.made w0 w0.heap.size (Nat.le_refl _) mk 64 (by simp only [maxLen]; omega) hmks.out
  have hbm := (Below.refl w0.heap.size w0).alloc (Nat.le_refl _) (.cells mk 5)
  have hr0 := a0.rd.below hbm
  go_wp2_with (first
    | (at_builtin
       refine wpList_appB hmade hbm hbm.size 32 32 hr0 ha.out hle1 rfl (.tmp 7) (.tmp 8) rfl rfl rfl ?_
       intro y1 w1 hown hb1 hz1 hg1
       rw [List.nil_append] at hown
       have hr1 := a1.rd.below hb1)
    | (at_builtin
       refine wpList_appB hown hb1 hb1.size 32 32 hr1 hb.out hle2 rfl (.tmp 10) (.tmp 11) rfl rfl rfl ?_
       intro y2 w2 hown2 hb2 hz2 hg2
       obtain ⟨A2, c2, rfl, hc2, _⟩ := hown2.formN 64 (by rw [List.length_append, ha.out, hb.out])))
  replace a2 := a2.below hb2
  replace b0 := b0.trans (hb2.mono b0.size)
  refine (Double (a ++ b) A2 64 c2 (by rw [List.length_append, ha.out, hb.out]) hc2 (by omega) w2 hown2.rd (ht.below b0)).mono ?_
  rintro e w3 ⟨rfl, b3⟩
  rw [← hdd.out]
  replace a2 := a2.below b3
  replace b3 := b0.trans (b3.mono b0.size)
  go_wp2_with (refine wpList_storeAv b3 a2 (by omega) rfl _ _ _ rfl rfl (dd.map bv) rfl 32 (by rw [List.length_map, hdl.out]) (by kernel_rfl) (by rw [List.size_toArray, List.length_map]; exact hzl.out) (by simp [Value.oneCell']) ?_
               intro w6 a6 b6 k6 z6)
  refine bodyPost_ret (results_cell_row rfl _ _ (w.heap.size + 1 + 1) _ _ (0, 0) _ rfl a6 Tryd.underlying30 rfl (by rw [List.size_toArray, List.length_map, hdl.out]; kernel_rfl)) rfl ⟨rfl, b6⟩
end Go.Proofs.YtobjgebojhjhnaaDoor
namespace Go.Proofs.YtobjgebojhjhnaaDoor
open Go.RowKit
theorem xor_one_nat (k : Nat) : k ^^^ 1 = if k % 2 = 0 then k + 1 else k - 1 := by
 have hd : (k ^^^ 1) / 2 = k / 2 := by
  have := Nat.xor_div_two (a := k) (b := 1)
  simpa using this
 have hm : (k ^^^ 1) % 2 = (k + 1) % 2 := by
  have h := Nat.testBit_xor k 1 0
  rw [Nat.testBit_zero, Nat.testBit_zero, Nat.testBit_zero] at h
  have h2 : ((k ^^^ 1) % 2 = 1) ↔ ¬ (k % 2 = 1) := by
   rw [← decide_eq_true_iff (p := (k ^^^ 1) % 2 = 1), h]
   by_cases hk : k % 2 = 1 <;> simp [hk]
  omega
 split <;> omega
theorem bits_xor_one (k : Nat) (hk : k < 2147483648) : bits .xor .i64 (k : Int) 1 = ((if k % 2 = 0 then k + 1 else k - 1 : Nat) : Int) := by
 rw [← xor_one_nat]
 have h2 : k ^^^ 1 < 2147483648 := Nat.xor_lt_two_pow (n := 31) (by omega) (by omega)
 simp only [bits, IntKind.bits]
 have e : (BitVec.ofInt 64 (k : Int) ^^^ BitVec.ofInt 64 1).toNat = k ^^^ 1 := by
  rw [BitVec.toNat_xor]
  have e1 : (BitVec.ofInt 64 (k : Int)).toNat = k := by simp; omega
  have e2 : (BitVec.ofInt 64 1).toNat = 1 := by decide
  rw [e1, e2]
 have e3 : IntKind.i64.wrap ((BitVec.ofInt 64 (k : Int) ^^^ BitVec.ofInt 64 1).toNat : Int) = ((k ^^^ 1 : Nat) : Int) := by
  rw [e, IntKind.wrap_i64]; omega
 exact e3
theorem paired_of (k n : Nat) (hk : k < 2147483648) (hn : 0 < n) (hn2 : n < 2147483648) (w : World) :
  Calls Tryd.prog 92 #[.int .i64 (k : Int), .int .i64 (n : Int)] w fun e w' => e = .returned (.int .i64 ((min (if k % 2 = 0 then k + 1 else k - 1) (n - 1) : Nat) : Int)) ∧ w' = w := by
 have hx := bits_xor_one k hk
 generalize (if k % 2 = 0 then k + 1 else k - 1) = j at hx ⊢
 have h1 : IntKind.i64.wrap ((n : Int) - 1) = ((n - 1 : Nat) : Int) := by rw [IntKind.wrap_i64]; omega
 obtain ⟨r, hr⟩ : ∃ r, r = min j (n - 1) := ⟨_, rfl⟩
 have h2 : min (j : Int) ((n - 1 : Nat) : Int) = (r : Int) := by omega
 rw [← hr]
 clear hr
 generalize n - 1 = m at h1 h2
 go_enter Tryd.func92, Tryd.ntmps92
 go_wp2
 ·go_ret
  exact ⟨by rw [show r = m by omega]; rfl, rfl⟩
 ·go_ret
  exact ⟨by rw [show r = j by omega]; rfl, rfl⟩
def mWidth (n h : Int) : Int := if h < 0 then 0 else (min (max n 0) 4096 + 2 ^ (min h 12).toNat - 1) / 2 ^ (min h 12).toNat
theorem Width (n h : Int) (w : World) : Calls Tryd.prog 86 #[.int .i64 n, .int .i64 h] w fun e w' => e = .returned (.int .i64 (mWidth n h)) ∧ w' = w := by
 by_cases hh : h < 0
 ·go_enter Tryd.func86, Tryd.ntmps86
  go_wp2
  go_ret
  exact ⟨by rw [mWidth, if_pos hh]; rfl, rfl⟩
 ·have h0 : 0 ≤ h := by omega
  by_cases h12 : 12 < h
  ·have hm : min h 12 = 12 := by omega
   rw [mWidth, if_neg hh, hm]
   go_enter Tryd.func86, Tryd.ntmps86
   go_wp2
   all_goals
    go_ret
    refine ⟨congrArg (fun x => Ending.returned (Value.int IntKind.i64 x)) ?_, rfl⟩
    omega
  ·rcases (show h = 0 ∨ h = 1 ∨ h = 2 ∨ h = 3 ∨ h = 4 ∨ h = 5 ∨ h = 6 ∨ h = 7 ∨ h = 8 ∨ h = 9 ∨ h = 10 ∨ h = 11 ∨ h = 12 by omega) with rfl | rfl | rfl | rfl | rfl | rfl | rfl | rfl | rfl | rfl | rfl | rfl | rfl
   all_goals
    rw [mWidth, if_neg (by decide)]
    first
     | rw [show (2 : Int) ^ (min (0 : Int) 12).toNat = 1 by decide]
     | rw [show (2 : Int) ^ (min (1 : Int) 12).toNat = 2 by decide]
     | rw [show (2 : Int) ^ (min (2 : Int) 12).toNat = 4 by decide]
     | rw [show (2 : Int) ^ (min (3 : Int) 12).toNat = 8 by decide]
     | rw [show (2 : Int) ^ (min (4 : Int) 12).toNat = 16 by decide]
     | rw [show (2 : Int) ^ (min (5 : Int) 12).toNat = 32 by decide]
     | rw [show (2 : Int) ^ (min (6 : Int) 12).toNat = 64 by decide]
     | rw [show (2 : Int) ^ (min (7 : Int) 12).toNat = 128 by decide]
     | rw [show (2 : Int) ^ (min (8 : Int) 12).toNat = 256 by decide]
     | rw [show (2 : Int) ^ (min (9 : Int) 12).toNat = 512 by decide]
     | rw [show (2 : Int) ^ (min (10 : Int) 12).toNat = 1024 by decide]
     | rw [show (2 : Int) ^ (min (11 : Int) 12).toNat = 2048 by decide]
     | rw [show (2 : Int) ^ (min (12 : Int) 12).toNat = 4096 by decide]
    go_enter Tryd.func86, Tryd.ntmps86
    go_wp2
    all_goals
     go_ret
     refine ⟨congrArg (fun x => Ending.returned (Value.int IntKind.i64 x)) ?_, rfl⟩
     omega
theorem Height (n : Int) (k : Nat) (h12 : k ≤ 12) (hlo : ∀ j : Nat, j < k → 1 < mWidth n j) (hhi : mWidth n k ≤ 1) (w : World) : Calls Tryd.prog 63 #[.int .i64 n] w fun e w' => e = .returned (.int .i64 (k : Int)) ∧ w' = w := by
 have HW := Lib.hid (fun (h : Int) w => Width n h w)
 go_enter Tryd.func63, Tryd.ntmps63
 go_wp2
 go_loopw [3] (fun i wr => ∃ j : Nat, j ≤ k ∧ i = .int .i64 (j : Int) ∧ wr = w) (fun i _ => k - (intOf i).toNat)
 case atStart => exact ⟨0, by omega, rfl, rfl⟩
 case round =>
  obtain ⟨j, hj, rfl, rfl⟩ := hrel
  by_cases hjk : j < k
  ·have h1 := hlo j hjk
   have h2 : decide (1 < mWidth n j) = true := by simpa using h1
   go_wp2_with (go_at_call 86; refine (HW.out _ _).mono ?_; rintro e w' ⟨rfl, rfl⟩)
   refine ⟨⟨j + 1, by omega, by go_num, trivial⟩, ?_⟩
   simp [intOf]; omega
  ·obtain rfl : j = k := by omega
   have h2 : decide (1 < mWidth n j) = false := by simp; omega
   go_wp2_with (go_at_call 86; refine (HW.out _ _).mono ?_; rintro e w' ⟨rfl, rfl⟩)
   go_ret
   exact ⟨rfl, rfl⟩
theorem nilH_eq (w : World) (A : Option Addr) (n c n' c' : Nat) : (binOp .eql 23 (.slice A n c) (.slice none n' c')).run Tryd.prog w = .ok (.bool A.isNone) w :=
 Lib.run_eql_slice_nil w _ _ A n c n' c' Tryd.underlying23
attribute [local go_sem high] nilH_eq
set_option maxHeartbeats 400000 in
theorem CloneH (l : List (List UInt8)) (h32 : All32 l) (A : Option Addr) (n c : Nat) (w : World) (hr : Rd w A (hcl l)) (hn : l.length = n) (hm : n ≤ 100000) :
  Calls Tryd.prog 48 #[.slice A n c] w fun e w' => ∃ v, e = .returned v ∧ w'.ownsRow w.heap.size 30 32 v n (hcl l) ∧ Below w.heap.size w w' := by
 cases A with
 | none =>
  have hb : l = [] := by
   rcases hr with h | ⟨_, _, h, _⟩
   ·cases l with
    | nil => rfl
    | cons x l => exact absurd h (hcl_ne h32 (by simp))
   ·cases h
  subst hb
  subst hn
  clear hm hr
  have hnn : (none : Option Addr).isNone = true := rfl
  go_enter Tryd.func48, Tryd.ntmps48
  go_wp2
  go_ret
  exact ⟨_, rfl, World.ownsRow_nil _ _ _ _, Below.refl _ _⟩
 | some a =>
  have hmade : (w.alloc (.cells #[] 30)).ownsRow w.heap.size 30 32 (.slice (some ⟨w.heap.size, 0, none⟩) 0 0) 0 (hcl []) := World.ownsRow_made w #[] 0 (Nat.le_refl _) (by simp [maxLen]) rfl
  have hb1 := (Below.refl w.heap.size w).alloc (Nat.le_refl _) (.cells #[] 30)
  have hr1 := hr.below hb1
  have hnn : (some a : Option Addr).isNone = false := rfl
  have Hn := Lib.hid hn
  clear hn
  go_enter Tryd.func48, Tryd.ntmps48
  go_wp2_with (at_builtin; refine wpList_appH hmade hb1 (by simp) h32 n c hr1 Hn.out (by omega) rfl (.tmp 5) (.tmp 6) rfl rfl rfl ?_; intro v1 w1 hown1 hb2 hz2 _ _)
  go_ret
  rw [List.nil_append, Nat.zero_add] at hown1
  exact ⟨_, rfl, hown1, hb2⟩
end Go.Proofs.YtobjgebojhjhnaaDoor
namespace Go.Proofs.YtobjgebojhjhnaaDoor
open Go.RowKit
theorem part_h (xs : Array Value) (off : Nat) (v : Array Value) (h : xs.extract off (off + 32) = v) (w : World) : (part 30 xs off).run Tryd.prog w = .ok (.agg v) w := by
 simp [part, isAgg, run_underlying Tryd.underlying30, h]
theorem eqFields_cons {P : Program} (d : Nat) (xs ys : Array Value) (f : Field) (fs : List Field) (w : World) (hn : (f.name == "_") = false) {t o : Nat} (ht : f.type = t) (ho : f.offset = o) (a b : Value) (r : Bool) (ha : (part t xs o).run P w = .ok a w) (hb : (part t ys o).run P w = .ok b w)
  (hr : (Op.equalIn d t a b).run P w = .ok r w) (R : Bool) (hR : (Op.eqFields d xs ys fs).run P w = .ok R w) : (Op.eqFields d xs ys (f :: fs)).run P w = .ok (r && R) w := by
 subst ht ho
 rw [Op.eqFields, if_pos (by simpa using hn), Sem.run_bind, ha, Result.andThen_ok, Sem.run_bind, hb, Result.andThen_ok, Sem.run_bind, hr, Result.andThen_ok]
 cases r
 ·simp
 ·simpa using hR
end Go.Proofs.YtobjgebojhjhnaaDoor
namespace Go.Proofs.YtobjgebojhjhnaaDoor
open Go.RowKit
set_option maxRecDepth 10000 in
theorem run_buildH (w : World) (l : List (List UInt8)) (h32 : All32 l) (n : Nat) (hn : l.length = n) (hp : 0 < n) (hs : n ≤ 1000) (parts : Array (Nat × Value)) (hparts : parts.toList = ((l.map fun x => Value.agg (hcs x)).zipIdx 0).map fun x => (x.2, x.1)) :
  (Instr.buildSlice 23 n parts).run Tryd.prog w = .ok (.slice (some ⟨w.heap.size, 0, none⟩) n n) (w.alloc (.cells (hcl l).toArray 30)) := by
 obtain ⟨i0, hi, hz⟩ := Option.map_eq_some_iff.1 info_h
 obtain ⟨i1, hi1, hz1⟩ := Option.map_eq_some_iff.1 zero_h
 obtain rfl : i1 = i0 := by rw [hi] at hi1; exact (Option.some.inj hi1).symm
 obtain ⟨z, hz2, hz3⟩ := Option.map_eq_some_iff.1 hz1
 injection hz with hz4 hz5
 refine run_buildSlice w _ _ n parts _ i1 z Tryd.underlying23 hi hz2 (by rw [hz4]; omega) (by rw [hz4]; omega) ?_
 rw [hparts, hz4]
 have := Great.fill_whole (s := 32) (by omega) (l.map fun x => Value.agg (hcs x)) ((Array.range (n * 32)).map (z.cells[· % z.cells.size]!)) (fun v hv => by
  obtain ⟨x, hx, rfl⟩ := List.mem_map.1 hv
  simp [Value.cells, h32 x hx]) (by simp [hn])
 rw [this]
 congr 2
 rw [List.flatMap_map, hcl]
 simp [Value.cells]
theorem exec_buildH {o : Oper} {ρ : Operand → Value} {w : World} (x : List UInt8) (hx : x.length = 32) (y : Operand) (ho : o.op = .buildSlice 23 1 #[(0, y)]) (hy : ρ y = .agg (hcs x)) :
  (execOp ρ o).run Tryd.prog w = .ok (.value (.slice (some ⟨w.heap.size, 0, none⟩) 1 1)) (w.alloc (.cells (x.map bv).toArray 30)) := by
 have := run_buildH w [x] (All32.one hx) 1 rfl (by omega) (by omega) #[(0, .agg (hcs x))] rfl
 rw [hcl_one] at this
 unfold execOp
 simp only [ho, Sem.run_bind, List.map_toArray, List.map_cons, List.map_nil, hy, this, Result.andThen_ok]
 rfl
def mUp : List (List UInt8) → List (List UInt8)
 | [] => []
 | [x] => [pairB x x]
 | x :: y :: r => pairB x y :: mUp r
theorem mUp_length : ∀ l : List (List UInt8), (mUp l).length = (l.length + 1) / 2
 | [] => by rw [mUp]; rfl
 | [_] => by rw [mUp]; simp
 | _ :: _ :: r => by rw [mUp, List.length_cons, mUp_length r, List.length_cons, List.length_cons]; omega
theorem mUp_32 : ∀ l : List (List UInt8), All32 (mUp l)
 | [] => fun _ h => by cases h
 | [x] => by rw [mUp]; exact All32.one (pairB_length x x)
 | x :: y :: r => fun z hz => by
  rw [mUp] at hz
  rcases List.mem_cons.1 hz with hz | hz
  ·rw [hz]; exact pairB_length x y
  ·exact mUp_32 r z hz
theorem mUp_get : ∀ (l : List (List UInt8)) (k : Nat), 2 * k < l.length → (mUp l)[k]? = some (pairB (l.getD (2 * k) []) (l.getD (min (2 * k + 1) (l.length - 1)) []))
 | [], k, h => by simp at h
 | [x], k, h => by
  obtain rfl : k = 0 := by simp at h; omega
  rw [mUp]; simp
 | x :: y :: r, 0, h => by
  simp [mUp]
 | x :: y :: r, k + 1, h => by
  rw [mUp, List.getElem?_cons_succ, mUp_get r k (by simp at h; omega)]
  simp only [List.length_cons] at h ⊢
  rw [show 2 * (k + 1) = 2 * k + 1 + 1 by omega, show min (2 * k + 1 + 1 + 1) (r.length + 1 + 1 - 1) = min (2 * k + 1) (r.length - 1) + 1 + 1 by omega]
  rfl
set_option maxRecDepth 10000 in
set_option maxHeartbeats 2000000 in
theorem above (l : List (List UInt8)) (h32 : All32 l) (A : Option Addr) (n c : Nat) (w : World) (hr : Rd w A (hcl l)) (hn : l.length = n) (hm : n ≤ 4096) (ht : Tabs w) :
  Calls Tryd.prog 78 #[.slice A n c] w fun e w' => ∃ v, e = .returned v ∧ w'.ownsRow w.heap.size 30 32 v ((n + 1) / 2) (hcl (mUp l)) ∧ Below w.heap.size w w' := by
 replace hn := Lib.hid hn
 go_enter Tryd.func78, Tryd.ntmps78
 go_wp2
 go_loopw [3, 4] (fun v i wr => ∃ k : Nat, 2 * k ≤ n + 1 ∧ i = .int .i64 ((2 * k : Nat) : Int) ∧ wr.ownsRow w.heap.size 30 32 v k (hcl ((mUp l).take k)) ∧ Below w.heap.size w wr) (fun _ i _ => n + 1 - (intOf i).toNat)
 case atStart => exact ⟨0, by omega, rfl, World.ownsRow_nil _ _ _ _, Below.refl _ _⟩
 case round =>
  obtain ⟨k, hk, rfl, hown, hb⟩ := hrel
  by_cases hlt : 2 * k < n
  ·have t1 : decide (((2 * k : Nat) : Int) < (n : Int)) = true := by simp; omega
   obtain ⟨b, off, rfl⟩ := hr.someA (hcl_ne h32 (by rw [hn.out]; omega))
   obtain ⟨x, hx⟩ : ∃ x, x = l.getD (2 * k) [] := ⟨_, rfl⟩
   obtain ⟨j, hj⟩ : ∃ j, j = min (2 * k + 1) (n - 1) := ⟨_, rfl⟩
   have hjn : j < n := by omega
   obtain ⟨y, hy⟩ : ∃ y, y = l.getD j [] := ⟨_, rfl⟩
   have hx32 : x.length = 32 := by rw [hx]; exact h32.get _ (by rw [hn.out]; omega)
   have hy32 : y.length = 32 := by rw [hy]; exact h32.get _ (by rw [hn.out]; omega)
   have hrx := Lib.hid (fun w' (hE : Below w.heap.size w w') => hx ▸ (hr.below hE).hash h32 (2 * k) (by rw [hn.out]; omega))
   have hry := Lib.hid (fun w' (hE : Below w.heap.size w w') => hy ▸ (hr.below hE).hash h32 j (by rw [hn.out]; omega))
   have hg : (mUp l)[k]? = some (pairB x y) := by
    rw [mUp_get l k (by rw [hn.out]; exact hlt), hn.out, ← hj, ← hx, ← hy]
   have HP := Lib.hid (paired_of (2 * k) n (by omega) (by omega) (by omega))
   rw [if_pos (by omega), ← hj] at HP
   have HQ := Lib.hid (fun w (ht : Tabs w) => Pair x y hx32 hy32 w ht)
   replace hj := Lib.hid hj
   replace hx := Lib.hid hx
   replace hy := Lib.hid hy
   replace hg := Lib.hid hg
   go_wp2_with fail
   have H1 : ∀ w', Ext wr.drew w' → Below w.heap.size w w' := fun w' hE => hb.trans (hE.drew.mono hb.size)
   refine wp_region_relT 14 [(13, OneW ((pairB x y).map bv))] Ext (by kernel_rfl) (by kernel_rfl) (by kernel_rfl) (by kernel_rfl) (by kernel_rfl) Ext.refl Ext.trans (by intro p hp v w w' hR; simp only [List.mem_singleton] at hp; subst hp; exact OneW.mono hR) ?_
   refine ZM ?_
   refine ZM ?_
   refine ZM ?_
   refine ZP (fun w _ => by go_simp; first | done | rfl) ?_
   refine ZP (c := .agg (hcs x)) (fun w hw => exec_load_mid _ _ rfl b (off + 2 * k * 32) rfl (x.map bv) _ (hrx.out w (H1 w hw)) Tryd.underlying30 rfl (by rw [List.length_map, hx32]; kernel_rfl)) ?_
   refine ZM ?_
   refine ZM ?_
   refine ZM ?_
   refine ZP (fun w _ => by go_simp; first | done | rfl) ?_
   refine ZC (c := .int .i64 (j : Int)) 92 #[.int .i64 ((2 * k : Nat) : Int), .int .i64 (n : Int)] (fun w hw => (HP.out w).mono ?_) ?_
   ·rintro e w' ⟨rfl, rfl⟩
    exact ⟨rfl, Ext.refl _⟩
   refine ZP (fun w _ => by go_simp; first | done | rfl) ?_
   refine ZP (c := .agg (hcs y)) (fun w hw => exec_load_mid _ _ rfl b (off + j * 32) rfl (y.map bv) _ (hry.out w (H1 w hw)) Tryd.underlying30 rfl (by rw [List.length_map, hy32]; kernel_rfl)) ?_
   refine ZC (c := .agg (hcs (pairB x y))) 67 #[.agg (hcs x), .agg (hcs y)] (fun w hw => (HQ.out w (ht.below (H1 w hw))).mono ?_) ?_
   ·rintro e w' ⟨rfl, hb⟩
    exact ⟨rfl, hb⟩
   refine relWord _ rfl (fun w hw => fill_none rfl (relOp_yes rfl ?_)) ?_
   ·rw [exec_buildH (pairB x y) (pairB_length x y) _ rfl (by rw [eval_evL]; rfl)]
    exact ⟨(Below.refl _ _).alloc (Nat.le_refl _) _, _, rfl, Av.rd (t := 30) (heap_alloc_new _ _)⟩
   refine relEnd fun w2 hw2 => fill_take rfl rfl fun v hv => fill_end ?_
   simp only [List.set_cons_succ, List.set_cons_zero, List.drop_succ_cons, List.drop_zero]
   obtain ⟨B, rfl, hrb⟩ := hv
   have hb2 := H1 w2 hw2
   rw [← hcl_one] at hrb
   replace hown := own_below hown hw2.drew.below
   go_wp2_with (at_builtin; refine wpList_appH hown hb2 hb2.size (All32.one (pairB_length x y)) 1 1 hrb rfl (by omega) rfl (.tmp 11) (.tmp 24) rfl rfl rfl ?_; intro v3 w3 hown3 hb3 hz3 _ _)
   refine ⟨⟨k + 1, by omega, by rw [show ((2 * (k + 1) : Nat) : Int) = 2 * (k : Int) + 2 by omega], ?_, hb3⟩, ?_⟩
   ·rw [List.take_add_one, hg.out]; exact hown3
   ·simp only [intOf]; omega
  ·have t1 : decide (((2 * k : Nat) : Int) < (n : Int)) = false := by simp; omega
   go_wp2
   go_ret
   refine ⟨_, rfl, ?_, hb⟩
   rw [List.take_of_length_le (by rw [mUp_length, hn.out]; omega)] at hown
   rw [show (n + 1) / 2 = k by omega]
   exact hown
end Go.Proofs.YtobjgebojhjhnaaDoor
