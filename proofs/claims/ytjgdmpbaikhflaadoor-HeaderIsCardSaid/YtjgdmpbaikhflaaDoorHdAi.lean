/- header.array, Id. -/
import Derived.Test.YtjgdmpbaikhflaaDoorPr7
namespace Go.Proofs.YtjgdmpbaikhflaaDoor
open Go.RowKit
attribute [local go_sem high] slB_lh slB_l slB_h
theorem splice {α : Type} (a b x c : List α) (o : Nat) (ho : a.length = o) (hb : b.length = x.length) : (a ++ (b ++ c)).take o ++ x ++ (a ++ (b ++ c)).drop (o + x.length) = a ++ (x ++ c) := by
  subst ho
  rw [List.take_left', List.drop_append, List.drop_append]
  · simp [← hb]
  · rfl
theorem zeros_80 : Tryd.zeroCells59 = ((List.replicate 80 (0 : UInt8)).map bv).toArray := by kernel_rfl
theorem size_u8' : (Tryd.prog.info? 5).map (·.size) = some 1 := by kernel_rfl
theorem zero_cut : (List.replicate 80 (0 : UInt8)).map bv = [] ++ ((List.replicate 4 (0 : UInt8)).map bv ++ ((List.replicate 32 (0 : UInt8)).map bv ++ ((List.replicate 32 (0 : UInt8)).map bv ++ ((List.replicate 4 (0 : UInt8)).map bv ++ ((List.replicate 4 (0 : UInt8)).map bv ++ (List.replicate 4 (0 : UInt8)).map bv))))) := rfl
set_option maxRecDepth 100000 in
set_option maxHeartbeats 2000000 in
theorem HdArr (h : Hd) (k : h.ok) (w : World) :
    Calls Tryd.prog 30 #[.agg (hdc h).toArray] w fun e w' => e = .returned (.agg (hcs (hdB h))) ∧ Below w.heap.size w w' := by
  have hz := zeros_80
  have hzl : (List.replicate 80 (0 : UInt8)).length = 80 := by simp
  have hzc := zero_cut
  obtain ⟨zs, hzs⟩ : ∃ zs : List UInt8, zs = List.replicate 80 0 := ⟨_, rfl⟩
  rw [← hzs] at hz hzl hzc
  clear hzs
  have l4 : ((List.replicate 4 (0 : UInt8)).map bv).length = 4 := rfl
  have l32 : ((List.replicate 32 (0 : UInt8)).map bv).length = 32 := rfl
  generalize (List.replicate 4 (0 : UInt8)).map bv = Z4 at *
  generalize (List.replicate 32 (0 : UInt8)).map bv = Z32 at *
  obtain ⟨W, hW⟩ : ∃ W, W = (((w.alloc (.cells (hdc h).toArray 26)).alloc (.cells (zs.map bv).toArray 59)).alloc (.cells (zs.map bv).toArray 59)) := ⟨_, rfl⟩
  obtain ⟨H, hH⟩ : ∃ H, H = w.heap.size := ⟨_, rfl⟩
  have bW : Below H w W := by rw [hW, hH]; exact (((Below.refl _ _).alloc (Nat.le_refl _) _).alloc (by simp) _).alloc (by simp; omega) _
  have aW : Av W H 26 (hdc h) := by rw [hW, hH]; exact Av.alloc (heap_alloc2_old _ _ _) _
  have rW : Av W (H + 1) 59 (zs.map bv) := by rw [hW, hH]; exact Av.alloc (heap_alloc2_new _ _ _) _
  have oW : Av W (H + 2) 59 (zs.map bv) := by
    have e : ∀ (v : World) (o : Obj), (v.alloc o).heap.size = v.heap.size + 1 := fun v o => by simp
    have := heap_alloc_new ((w.alloc (.cells (hdc h).toArray 26)).alloc (.cells (zs.map bv).toArray 59)) (.cells (zs.map bv).toArray 59)
    rw [e, e] at this
    rw [hW, hH]; exact this
  rw [hzc] at oW
  obtain ⟨c0, c3, c4, c5⟩ := hdc_at k
  have k1 : (h.prev.map bv).length = 32 := by rw [List.length_map, k.2.1]
  have k2 : (h.root.map bv).length = 32 := by rw [List.length_map, k.2.2.1]
  have hres : (hdB h).map bv = (Cm.lo 4 h.ver).map bv ++ (h.prev.map bv ++ (h.root.map bv ++ ((Cm.lo 4 h.time).map bv ++ ((Cm.lo 4 h.bits).map bv ++ (Cm.lo 4 h.nonce).map bv)))) := by simp [hdB]
  have hB80 := hdB_length k
  have m4 : ∀ n, ((Cm.lo 4 n).map bv).length = 4 := fun n => by rw [List.length_map, Cm.lo_length]
  obtain ⟨V, hV⟩ : ∃ V, V = hdB h := ⟨_, rfl⟩
  rw [← hV] at hres hB80 ⊢
  have hN : ∃ n0 n3 n4 n5 : Nat, h.ver = n0 ∧ h.time = n3 ∧ h.bits = n4 ∧ h.nonce = n5 := ⟨_, _, _, _, rfl, rfl, rfl, rfl⟩
  obtain ⟨n0, n3, n4, n5, e0, e3, e4, e5⟩ := hN
  rw [e0] at c0 hres
  rw [e3] at c3 hres
  rw [e4] at c4 hres
  rw [e5] at c5 hres
  replace hV := Lib.hid hV
  replace hW := Lib.hid hW
  replace hH := Lib.hid hH
  replace hzl := Lib.hid hzl
  replace hzc := Lib.hid hzc
  replace hres := Lib.hid hres
  replace l4 := Lib.hid l4
  replace l32 := Lib.hid l32
  replace k1 := Lib.hid k1
  replace k2 := Lib.hid k2
  replace m4 := Lib.hid m4
  replace hB80 := Lib.hid hB80
  clear e0 e3 e4 e5
  go_enter Tryd.func30, Tryd.ntmps30
  go_upto_region 2 with fail
  rw [← hW.out, ← hH.out]
  have fr0 : Fr (fun k => k = H + 2) W W := Fr.refl _ _
  refine wp_region_relT 3 [] Ext (by kernel_rfl) (by kernel_rfl) (by kernel_rfl) (by kernel_rfl) (by kernel_rfl) Ext.refl Ext.trans (by intro p hp; cases hp) ?_
  refine relPure Ext.refl rfl rfl rfl rfl (c := .slice (some ⟨H + 2, 0, none⟩) 80 80) (fun w _ => by go_simp; first | done | rfl) (by simp only [List.set_cons_succ, List.set_cons_zero]; rfl) ?_
  refine relPure Ext.refl rfl rfl rfl rfl (fun w _ => by go_simp; first | done | rfl) (by simp only [List.set_cons_succ, List.set_cons_zero]; rfl) ?_
  refine relPure Ext.refl rfl rfl rfl rfl (c := .int .u32 (n0 : Int)) (fun w hw => by have := (((fr0.av aW (by omega)).below hw.drew).cell 0 _ c0); go_simp; first | done | rfl) (by simp only [List.set_cons_succ, List.set_cons_zero]; rfl) ?_
  refine relEnd fun v1 hv1 => fill_end ?_
  have g1 : Av v1 (H + 2) 59 ([] ++ (Z4 ++ (Z32 ++ (Z32 ++ (Z4 ++ (Z4 ++ (Z4))))))) := by
    have := oW.below hv1.drew
    simpa only [List.append_assoc, List.append_nil, List.nil_append] using this
  have f1' : Fr (fun k => k = H + 2) W v1 := fr0.trans (Below.fr hv1.drew)
  simp only [List.drop_succ_cons, List.drop_zero]
  go_upto_region 3 with (go_at_call 44; refine (Lay (H + 2) 0 80 80 59 ([]) Z4 (Z32 ++ (Z32 ++ (Z4 ++ (Z4 ++ (Z4))))) (rfl) l4.out (by omega) n0 v1 g1).mono ?_; rintro e w1 ⟨⟨r, rfl⟩, q1, x1⟩)
  have y1 : Fr (fun k => k = H + 2) W w1 := f1'.trans x1
  have a1 : Av w1 (H + 2) 59 ((Cm.lo 4 n0).map bv ++ (Z32 ++ (Z32 ++ (Z4 ++ (Z4 ++ (Z4)))))) := by simpa only [List.append_assoc, List.append_nil, List.nil_append] using q1
  clear g1 q1 f1' x1
  go_wp2_with fail
  refine wp_region_relT 3 [] Ext (by kernel_rfl) (by kernel_rfl) (by kernel_rfl) (by kernel_rfl) (by kernel_rfl) Ext.refl Ext.trans (by intro p hp; cases hp) ?_
  refine relPure Ext.refl rfl rfl rfl rfl (c := .slice (some ⟨H + 2, 4, none⟩) 76 76) (fun w _ => by go_simp; first | done | rfl) (by simp only [List.set_cons_succ, List.set_cons_zero]; rfl) ?_
  refine relPure Ext.refl rfl rfl rfl rfl (fun w _ => by go_simp; first | done | rfl) (by simp only [List.set_cons_succ, List.set_cons_zero]; rfl) ?_
  refine relPure Ext.refl rfl rfl rfl rfl (c := .slice (some ⟨H, 1, none⟩) 32 32) (fun w _ => by go_simp; first | done | rfl) (by simp only [List.set_cons_succ, List.set_cons_zero]; rfl) ?_
  refine relEnd fun v2 hv2 => fill_end ?_
  have g2 : Av v2 (H + 2) 59 ((Cm.lo 4 n0).map bv ++ (Z32 ++ (Z32 ++ (Z4 ++ (Z4 ++ (Z4)))))) := by
    have := a1.below hv2.drew
    simpa only [List.append_assoc, List.append_nil, List.nil_append] using this
  have f2' : Fr (fun k => k = H + 2) W v2 := y1.trans (Below.fr hv2.drew)
  simp only [List.drop_succ_cons, List.drop_zero]
  (refine wpList_copyF g2 5 Tryd.underlying37 size_u8' 4 76 76 (some ⟨H, 1, none⟩) 32 32 (h.prev.map bv) (rd_of_range (Av.hd_prev (f2'.av aW (by omega)))) (k1.out) (by rw [k1.out]; simp only [List.length_append, l4.out, l32.out, m4.out]; omega) (by intro u hu; obtain ⟨_, _, rfl⟩ := List.mem_map.1 hu; rfl) rfl rfl ?_; intro w2 q2 x2; rw [splice _ _ _ _ 4 (by simp only [m4.out]) (by rw [l32.out, k1.out])] at q2)
  have y2 : Fr (fun k => k = H + 2) W w2 := f2'.trans x2
  have a2 : Av w2 (H + 2) 59 ((Cm.lo 4 n0).map bv ++ (h.prev.map bv ++ (Z32 ++ (Z4 ++ (Z4 ++ (Z4)))))) := by simpa only [List.append_assoc, List.append_nil, List.nil_append] using q2
  clear g2 q2 f2' x2
  go_wp2_with fail
  refine wp_region_relT 3 [] Ext (by kernel_rfl) (by kernel_rfl) (by kernel_rfl) (by kernel_rfl) (by kernel_rfl) Ext.refl Ext.trans (by intro p hp; cases hp) ?_
  refine relPure Ext.refl rfl rfl rfl rfl (c := .slice (some ⟨H + 2, 36, none⟩) 44 44) (fun w _ => by go_simp; first | done | rfl) (by simp only [List.set_cons_succ, List.set_cons_zero]; rfl) ?_
  refine relPure Ext.refl rfl rfl rfl rfl (fun w _ => by go_simp; first | done | rfl) (by simp only [List.set_cons_succ, List.set_cons_zero]; rfl) ?_
  refine relPure Ext.refl rfl rfl rfl rfl (c := .slice (some ⟨H, 33, none⟩) 32 32) (fun w _ => by go_simp; first | done | rfl) (by simp only [List.set_cons_succ, List.set_cons_zero]; rfl) ?_
  refine relEnd fun v3 hv3 => fill_end ?_
  have g3 : Av v3 (H + 2) 59 ((Cm.lo 4 n0).map bv ++ (h.prev.map bv) ++ (Z32 ++ (Z4 ++ (Z4 ++ (Z4))))) := by
    have := a2.below hv3.drew
    simpa only [List.append_assoc, List.append_nil, List.nil_append] using this
  have f3' : Fr (fun k => k = H + 2) W v3 := y2.trans (Below.fr hv3.drew)
  simp only [List.drop_succ_cons, List.drop_zero]
  (refine wpList_copyF g3 5 Tryd.underlying37 size_u8' 36 44 44 (some ⟨H, 33, none⟩) 32 32 (h.root.map bv) (rd_of_range (Av.hd_root k (f3'.av aW (by omega)))) (k2.out) (by rw [k2.out]; simp only [List.length_append, l4.out, l32.out, m4.out, k1.out]; omega) (by intro u hu; obtain ⟨_, _, rfl⟩ := List.mem_map.1 hu; rfl) rfl rfl ?_; intro w3 q3 x3; rw [splice _ _ _ _ 36 (by simp only [List.length_append, k1.out, m4.out]) (by rw [l32.out, k2.out])] at q3)
  have y3 : Fr (fun k => k = H + 2) W w3 := f3'.trans x3
  have a3 : Av w3 (H + 2) 59 ((Cm.lo 4 n0).map bv ++ (h.prev.map bv ++ (h.root.map bv ++ (Z4 ++ (Z4 ++ (Z4)))))) := by simpa only [List.append_assoc, List.append_nil, List.nil_append] using q3
  clear g3 q3 f3' x3
  go_wp2_with fail
  refine wp_region_relT 3 [] Ext (by kernel_rfl) (by kernel_rfl) (by kernel_rfl) (by kernel_rfl) (by kernel_rfl) Ext.refl Ext.trans (by intro p hp; cases hp) ?_
  refine relPure Ext.refl rfl rfl rfl rfl (c := .slice (some ⟨H + 2, 68, none⟩) 12 12) (fun w _ => by go_simp; first | done | rfl) (by simp only [List.set_cons_succ, List.set_cons_zero]; rfl) ?_
  refine relPure Ext.refl rfl rfl rfl rfl (fun w _ => by go_simp; first | done | rfl) (by simp only [List.set_cons_succ, List.set_cons_zero]; rfl) ?_
  refine relPure Ext.refl rfl rfl rfl rfl (c := .int .u32 (n3 : Int)) (fun w hw => by have := (((y3.av aW (by omega)).below hw.drew).cell 65 _ c3); go_simp; first | done | rfl) (by simp only [List.set_cons_succ, List.set_cons_zero]; rfl) ?_
  refine relEnd fun v4 hv4 => fill_end ?_
  have g4 : Av v4 (H + 2) 59 ((Cm.lo 4 n0).map bv ++ (h.prev.map bv ++ (h.root.map bv)) ++ (Z4 ++ (Z4 ++ (Z4)))) := by
    have := a3.below hv4.drew
    simpa only [List.append_assoc, List.append_nil, List.nil_append] using this
  have f4' : Fr (fun k => k = H + 2) W v4 := y3.trans (Below.fr hv4.drew)
  simp only [List.drop_succ_cons, List.drop_zero]
  go_upto_region 6 with (go_at_call 44; refine (Lay (H + 2) 68 12 12 59 ((Cm.lo 4 n0).map bv ++ (h.prev.map bv ++ (h.root.map bv))) Z4 (Z4 ++ (Z4)) (by simp only [List.length_append, k1.out, k2.out, m4.out]) l4.out (by omega) n3 v4 g4).mono ?_; rintro e w4 ⟨⟨r, rfl⟩, q4, x4⟩)
  have y4 : Fr (fun k => k = H + 2) W w4 := f4'.trans x4
  have a4 : Av w4 (H + 2) 59 ((Cm.lo 4 n0).map bv ++ (h.prev.map bv ++ (h.root.map bv ++ ((Cm.lo 4 n3).map bv ++ (Z4 ++ (Z4)))))) := by simpa only [List.append_assoc, List.append_nil, List.nil_append] using q4
  clear g4 q4 f4' x4
  go_wp2_with fail
  refine wp_region_relT 3 [] Ext (by kernel_rfl) (by kernel_rfl) (by kernel_rfl) (by kernel_rfl) (by kernel_rfl) Ext.refl Ext.trans (by intro p hp; cases hp) ?_
  refine relPure Ext.refl rfl rfl rfl rfl (c := .slice (some ⟨H + 2, 72, none⟩) 8 8) (fun w _ => by go_simp; first | done | rfl) (by simp only [List.set_cons_succ, List.set_cons_zero]; rfl) ?_
  refine relPure Ext.refl rfl rfl rfl rfl (fun w _ => by go_simp; first | done | rfl) (by simp only [List.set_cons_succ, List.set_cons_zero]; rfl) ?_
  refine relPure Ext.refl rfl rfl rfl rfl (c := .int .u32 (n4 : Int)) (fun w hw => by have := (((y4.av aW (by omega)).below hw.drew).cell 66 _ c4); go_simp; first | done | rfl) (by simp only [List.set_cons_succ, List.set_cons_zero]; rfl) ?_
  refine relEnd fun v5 hv5 => fill_end ?_
  have g5 : Av v5 (H + 2) 59 ((Cm.lo 4 n0).map bv ++ (h.prev.map bv ++ (h.root.map bv ++ ((Cm.lo 4 n3).map bv))) ++ (Z4 ++ (Z4))) := by
    have := a4.below hv5.drew
    simpa only [List.append_assoc, List.append_nil, List.nil_append] using this
  have f5' : Fr (fun k => k = H + 2) W v5 := y4.trans (Below.fr hv5.drew)
  simp only [List.drop_succ_cons, List.drop_zero]
  go_upto_region 7 with (go_at_call 44; refine (Lay (H + 2) 72 8 8 59 ((Cm.lo 4 n0).map bv ++ (h.prev.map bv ++ (h.root.map bv ++ ((Cm.lo 4 n3).map bv)))) Z4 (Z4) (by simp only [List.length_append, k1.out, k2.out, m4.out]) l4.out (by omega) n4 v5 g5).mono ?_; rintro e w5 ⟨⟨r, rfl⟩, q5, x5⟩)
  have y5 : Fr (fun k => k = H + 2) W w5 := f5'.trans x5
  have a5 : Av w5 (H + 2) 59 ((Cm.lo 4 n0).map bv ++ (h.prev.map bv ++ (h.root.map bv ++ ((Cm.lo 4 n3).map bv ++ ((Cm.lo 4 n4).map bv ++ (Z4)))))) := by simpa only [List.append_assoc, List.append_nil, List.nil_append] using q5
  clear g5 q5 f5' x5
  go_wp2_with fail
  refine wp_region_relT 3 [] Ext (by kernel_rfl) (by kernel_rfl) (by kernel_rfl) (by kernel_rfl) (by kernel_rfl) Ext.refl Ext.trans (by intro p hp; cases hp) ?_
  refine relPure Ext.refl rfl rfl rfl rfl (c := .slice (some ⟨H + 2, 76, none⟩) 4 4) (fun w _ => by go_simp; first | done | rfl) (by simp only [List.set_cons_succ, List.set_cons_zero]; rfl) ?_
  refine relPure Ext.refl rfl rfl rfl rfl (fun w _ => by go_simp; first | done | rfl) (by simp only [List.set_cons_succ, List.set_cons_zero]; rfl) ?_
  refine relPure Ext.refl rfl rfl rfl rfl (c := .int .u32 (n5 : Int)) (fun w hw => by have := (((y5.av aW (by omega)).below hw.drew).cell 67 _ c5); go_simp; first | done | rfl) (by simp only [List.set_cons_succ, List.set_cons_zero]; rfl) ?_
  refine relEnd fun v6 hv6 => fill_end ?_
  have g6 : Av v6 (H + 2) 59 ((Cm.lo 4 n0).map bv ++ (h.prev.map bv ++ (h.root.map bv ++ ((Cm.lo 4 n3).map bv ++ ((Cm.lo 4 n4).map bv)))) ++ (Z4 ++ ([]))) := by
    have := a5.below hv6.drew
    simpa only [List.append_assoc, List.append_nil, List.nil_append] using this
  have f6' : Fr (fun k => k = H + 2) W v6 := y5.trans (Below.fr hv6.drew)
  simp only [List.drop_succ_cons, List.drop_zero]
  go_upto_region 8 with (go_at_call 44; refine (Lay (H + 2) 76 4 4 59 ((Cm.lo 4 n0).map bv ++ (h.prev.map bv ++ (h.root.map bv ++ ((Cm.lo 4 n3).map bv ++ ((Cm.lo 4 n4).map bv))))) Z4 ([]) (by simp only [List.length_append, k1.out, k2.out, m4.out]) l4.out (by omega) n5 v6 g6).mono ?_; rintro e w6 ⟨⟨r, rfl⟩, q6, x6⟩)
  have y6 : Fr (fun k => k = H + 2) W w6 := f6'.trans x6
  have a6 : Av w6 (H + 2) 59 ((Cm.lo 4 n0).map bv ++ (h.prev.map bv ++ (h.root.map bv ++ ((Cm.lo 4 n3).map bv ++ ((Cm.lo 4 n4).map bv ++ ((Cm.lo 4 n5).map bv)))))) := by simpa only [List.append_assoc, List.append_nil, List.nil_append] using q6
  clear g6 q6 f6' x6
  rw [← hres.out] at a6
  have b6 : Below H w w6 := bW.trans (y6.below (fun k hk => by omega) (by rw [hH.out]; exact bW.size))
  have r6 := y6.av rW (by omega)
  have hV80 : (V.map bv).length = 80 := by rw [List.length_map, hB80.out]
  go_wp2_with (first
    | ((with_reducible refine wpList_loadF 59 a6 ?_ _ 80 hV80 Tryd.underlying59 ?_ ?_ ?_); rfl; rfl; kernel_rfl)
    | ((with_reducible refine wpList_storeFA 59 b6 r6 (Nat.le_succ _) (V.map bv) ?_ ?_ 80 hV80 ?_ ?_ ?_ ?_); rfl; rfl; kernel_rfl; (rw [List.length_map]; exact hzl.out); (simp [Value.oneCell']); intro w7 a7 b7 k7 z7))
  refine bodyPost_ret (results_cell_row rfl _ _ (H + 1) _ _ (0, 0) _ (by rfl) a7 Tryd.underlying59 rfl (by rw [List.size_toArray, hV80]; kernel_rfl)) rfl ⟨rfl, ?_⟩
  rw [← hH.out]
  exact b7
set_option maxRecDepth 100000 in
set_option maxHeartbeats 2000000 in
theorem HdId (h : Hd) (k : h.ok) (w : World) (ht : Tabs w) :
    Calls Tryd.prog 12 #[.agg (hdc h).toArray] w fun e w' => e = .returned (.agg (hcs (hdId h))) ∧ Below w.heap.size w w' := by
  have hz := zeros_80
  have hzl : (List.replicate 80 (0 : UInt8)).length = 80 := by simp
  obtain ⟨zs, hzs⟩ : ∃ zs : List UInt8, zs = List.replicate 80 0 := ⟨_, rfl⟩
  rw [← hzs] at hz hzl
  clear hzs
  have HA := Lib.hid (HdArr h k)
  have hV80 : ((hdB h).map bv).length = 80 := by rw [List.length_map, hdB_length k]
  have h68 := hdc_length k
  have yz := zeros_32
  have yl : (List.replicate 32 (0 : UInt8)).length = 32 := by simp
  obtain ⟨ys, hys⟩ : ∃ zs : List UInt8, zs = List.replicate 32 0 := ⟨_, rfl⟩
  rw [← hys] at yz yl
  clear hys
  obtain ⟨V, hV⟩ : ∃ V, V = hdB h := ⟨_, rfl⟩
  rw [← hV] at HA hV80
  rw [hdId, ← hV]
  obtain ⟨dd, hdd⟩ : ∃ l, l = dblB V := ⟨_, rfl⟩
  have hdl : dd.length = 32 := by rw [hdd, dblB_length]
  rw [← hdd]
  have HD := fun A w' q t => Double V A 80 80 (by rw [← hV80, List.length_map]) (Nat.le_refl _) (by omega) w' q t
  rw [← hdd] at HD
  replace HD := Lib.hid HD
  obtain ⟨W, hW⟩ : ∃ W, W = (w.alloc (.cells (hdc h).toArray 26)).alloc (.cells (ys.map bv).toArray 24) := ⟨_, rfl⟩
  obtain ⟨H, hH⟩ : ∃ H, H = w.heap.size := ⟨_, rfl⟩
  have bW : Below w.heap.size w W := by rw [hW]; exact ((Below.refl _ _).alloc (Nat.le_refl _) _).alloc (by simp) _
  have aW : Av W H 26 (hdc h) := by rw [hW, hH]; exact heap_alloc2_old _ _ _
  have rW : Av W (H + 1) 24 (ys.map bv) := by rw [hW, hH]; exact heap_alloc2_new _ _ _
  replace hV := Lib.hid hV
  replace hW := Lib.hid hW
  replace hH := Lib.hid hH
  replace hzl := Lib.hid hzl
  replace yl := Lib.hid yl
  replace hdd := Lib.hid hdd
  replace hdl := Lib.hid hdl
  replace hV80 := Lib.hid hV80
  replace h68 := Lib.hid h68
  go_enter Tryd.func12, Tryd.ntmps12
  go_upto_region 1 with fail
  rw [← hW.out, ← hH.out]
  go_upto_region 2 with (first
    | ((with_reducible refine wpList_loadF 26 aW ?_ _ 68 h68.out Tryd.underlying26 ?_ ?_ ?_); rfl; rfl; kernel_rfl)
    | (go_at_call 30; refine (HA.out _).mono ?_; rintro e w1 ⟨rfl, b1⟩)
    | ((with_reducible refine wpList_storeF 59 ((Below.refl w1.heap.size w1).alloc (Nat.le_refl _) _) (heap_alloc_new _ _) (Nat.le_refl _) (V.map bv) ?_ ?_ 80 hV80.out ?_ ?_ ?_ ?_); rfl; rfl; kernel_rfl; (rw [List.size_toArray, List.length_map]; exact hzl.out); (simp [Value.oneCell']); intro w2 a2 b2 k2 z2; clear k2; replace z2 := Lib.hid z2))
  have bw2 : Below w.heap.size w w2 := bW.trans ((b1.trans (b2.mono b1.size)).mono bW.size)
  have a2r := a2.rd
  have r2 := (rW.below b1).below b2
  have hH1 : w.heap.size ≤ H + 1 := by rw [hH.out]; omega
  go_wp2_with fail
  refine (HD.out _ w2 a2r (ht.below bw2)).mono ?_
  rintro e w3 ⟨rfl, b3⟩
  have bw3 := bw2.trans (b3.mono bw2.size)
  have r3 := r2.below b3
  go_wp2_with ((with_reducible refine wpList_storeFA 24 bw3 r3 hH1 (dd.map bv) ?_ ?_ 32 ?_ ?_ ?_ ?_ ?_); rfl; rfl; (rw [List.length_map, hdl.out]); kernel_rfl; (rw [List.length_map]; exact yl.out); (simp [Value.oneCell']); intro w6 a6 b6 k6 z6)
  refine bodyPost_ret (results_cell_row rfl _ _ (H + 1) _ _ (0, 0) _ (by rfl) a6 Tryd.underlying24 rfl (by rw [List.size_toArray, List.length_map, hdl.out]; kernel_rfl)) rfl ⟨rfl, b6⟩
end Go.Proofs.YtjgdmpbaikhflaaDoor
