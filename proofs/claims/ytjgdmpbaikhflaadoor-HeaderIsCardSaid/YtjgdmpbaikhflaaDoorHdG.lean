/- header.Get. -/
import Derived.Test.YtjgdmpbaikhflaaDoorPr11
import Derived.Test.YtjgdmpbaikhflaaDoorPr13
namespace Go.Proofs.YtjgdmpbaikhflaaDoor
open Go.RowKit
attribute [local go_sem high] slB_lh slB_l slB_h
theorem hdc_set1 {h : Hd} (k : h.ok) {p : List UInt8} (hp : p.length = 32) : (hdc h).take 1 ++ p.map bv ++ (hdc h).drop (1 + 32) = hdc { h with prev := p } := by
  have e : hdc h = [.int .u32 (h.ver : Int)] ++ (h.prev.map bv ++ (h.root.map bv ++ [.int .u32 (h.time : Int), .int .u32 (h.bits : Int), .int .u32 (h.nonce : Int)])) := rfl
  have := splice [Value.int .u32 (h.ver : Int)] (h.prev.map bv) (p.map bv) (h.root.map bv ++ [.int .u32 (h.time : Int), .int .u32 (h.bits : Int), .int .u32 (h.nonce : Int)]) 1 rfl (by simp [hp, k.2.1])
  rw [List.length_map, hp, ← e] at this
  rw [this]
  rfl
theorem hdc_set2 {h : Hd} (k : h.ok) {p : List UInt8} (hp : p.length = 32) : (hdc h).take 33 ++ p.map bv ++ (hdc h).drop (33 + 32) = hdc { h with root := p } := by
  have e : hdc h = ([.int .u32 (h.ver : Int)] ++ h.prev.map bv) ++ (h.root.map bv ++ [.int .u32 (h.time : Int), .int .u32 (h.bits : Int), .int .u32 (h.nonce : Int)]) := by simp [hdc]
  have := splice ([Value.int .u32 (h.ver : Int)] ++ h.prev.map bv) (h.root.map bv) (p.map bv) [.int .u32 (h.time : Int), .int .u32 (h.bits : Int), .int .u32 (h.nonce : Int)] 33 (by simp [k.2.1]) (by simp [hp, k.2.2.1])
  rw [List.length_map, hp, ← e] at this
  rw [this]
  simp [hdc]
def zeroHd : Hd := ⟨0, List.replicate 32 0, List.replicate 32 0, 0, 0, 0⟩
theorem zeroHd_ok : zeroHd.ok := by unfold Hd.ok; decide
/-- the header that eighty bytes are -/
def hdOf (b : List UInt8) : Hd := ⟨Cm.le (b.take 4), (b.drop 4).take 32, (b.drop 36).take 32, Cm.le ((b.drop 68).take 4), Cm.le ((b.drop 72).take 4), Cm.le ((b.drop 76).take 4)⟩
theorem le4 (b : List UInt8) : Cm.le (b.take 4) < 4294967296 := by
  have h := Cm.le_lt (b.take 4)
  exact Nat.lt_of_lt_of_le h (Nat.pow_le_pow_right (n := 256) (by omega) (i := (b.take 4).length) (j := 4) (by rw [List.length_take]; omega))
theorem hdOf_ok {b : List UInt8} (h : b.length = 80) : (hdOf b).ok := ⟨le4 _, by simp [hdOf]; omega, by simp [hdOf]; omega, le4 _, le4 _, le4 _⟩
/-- what header.Get answers -/
def hdGet (b : List UInt8) : Hd × Nat := if b.length < 80 then (zeroHd, 1) else if 80 < b.length then (zeroHd, 3) else (hdOf b, 0)
set_option maxRecDepth 10000 in
set_option maxHeartbeats 4000000 in
theorem HdGet_bad (e : Nat) (A : Option Addr) (n c : Nat) (hn : n < 80 ∧ e = 1 ∨ 80 < n ∧ e = 3) (w : World) :
    Calls Tryd.prog 15 #[.slice A n c] w fun r w' => r = .returned (.tuple #[.agg (hdc zeroHd).toArray, .int .i64 (e : Int)]) ∧ Below w.heap.size w w' := by
  have hz := zeros_68
  obtain ⟨zs, hzs⟩ : ∃ zs : List Value, zs = hdc zeroHd := ⟨_, rfl⟩
  have hzl : zs.length = 68 := by rw [hzs]; rfl
  have hone : zs.all (·.oneCell') = true := by rw [hzs]; exact List.all_eq_true.2 (hdc_one _)
  rw [show hdc ⟨0, List.replicate 32 0, List.replicate 32 0, 0, 0, 0⟩ = zs from hzs.symm] at hz
  rw [← hzs]
  clear hzs
  obtain ⟨W, hW⟩ : ∃ W, W = w.alloc (.cells zs.toArray 26) := ⟨_, rfl⟩
  obtain ⟨H, hH⟩ : ∃ H, H = w.heap.size := ⟨_, rfl⟩
  have bW : Below w.heap.size w W := by rw [hW]; exact (Below.refl _ _).alloc (Nat.le_refl _) _
  have rW : Av W H 26 zs := by rw [hW, hH]; exact heap_alloc_new _ _
  have hHw : w.heap.size ≤ H := by rw [hH]; exact Nat.le_refl _
  replace hW := Lib.hid hW
  replace hH := Lib.hid hH
  replace hzl := Lib.hid hzl
  replace hone := Lib.hid hone
  rcases hn with ⟨h1, rfl⟩ | ⟨h1, rfl⟩
  · have t1 : decide ((n : Int) < 80) = true := by simp; omega
    go_enter Tryd.func15, Tryd.ntmps15
    go_upto_region 1 with fail
    rw [← hW.out, ← hH.out]
    go_wp2_with (first
      | ((with_reducible refine wpList_build (.agg zs.toArray) ?_ ?_); (go_simp; first | done | rfl))
      | ((with_reducible refine wpList_storeFA 26 bW rW hHw zs ?_ ?_ 68 hzl.out ?_ ?_ ?_ ?_); rfl; rfl; kernel_rfl; exact hzl.out; exact hone.out; intro w4 a4 b4 k4 z4))
    refine bodyPost_ret (v := .tuple #[.agg zs.toArray, .int .i64 1]) ((results_cellU (C := zs) (by rfl) (by rfl) a4 _ Tryd.underlying26 rfl 68 hzl.out (by kernel_rfl)).trans (by rfl)) (by rfl) ?_
    exact ⟨rfl, b4⟩
  · have t1 : decide ((n : Int) < 80) = false := by simp; omega
    have t2 : decide ((80 : Int) < (n : Int)) = true := by simp; omega
    go_enter Tryd.func15, Tryd.ntmps15
    go_upto_region 1 with fail
    rw [← hW.out, ← hH.out]
    go_wp2_with (first
      | ((with_reducible refine wpList_build (.agg zs.toArray) ?_ ?_); (go_simp; first | done | rfl))
      | ((with_reducible refine wpList_storeFA 26 bW rW hHw zs ?_ ?_ 68 hzl.out ?_ ?_ ?_ ?_); rfl; rfl; kernel_rfl; exact hzl.out; exact hone.out; intro w4 a4 b4 k4 z4))
    refine bodyPost_ret (v := .tuple #[.agg zs.toArray, .int .i64 3]) ((results_cellU (C := zs) (by rfl) (by rfl) a4 _ Tryd.underlying26 rfl 68 hzl.out (by kernel_rfl)).trans (by rfl)) (by rfl) ?_
    exact ⟨rfl, b4⟩
set_option maxRecDepth 10000 in
set_option maxHeartbeats 4000000 in
theorem HdGet_ok (b : List UInt8) (A : Option Addr) (c : Nat) (hn : b.length = 80) (hc : 80 ≤ c) (w : World) (hr : Rd w A (b.map bv)) :
    Calls Tryd.prog 15 #[.slice A 80 c] w fun r w' => r = .returned (.tuple #[.agg (hdc (hdOf b)).toArray, .int .i64 0]) ∧ Below w.heap.size w w' := by
  have hz := zeros_68
  obtain ⟨zs, hzs⟩ : ∃ zs : List Value, zs = hdc zeroHd := ⟨_, rfl⟩
  have hzl : zs.length = 68 := by rw [hzs]; rfl
  rw [show hdc ⟨0, List.replicate 32 0, List.replicate 32 0, 0, 0, 0⟩ = zs from hzs.symm] at hz
  clear hzs
  obtain ⟨W, hW⟩ : ∃ W, W = w.alloc (.cells zs.toArray 26) := ⟨_, rfl⟩
  obtain ⟨H, hH⟩ : ∃ H, H = w.heap.size := ⟨_, rfl⟩
  have bW : Below w.heap.size w W := by rw [hW]; exact (Below.refl _ _).alloc (Nat.le_refl _) _
  have rW : Av W H 26 zs := by rw [hW, hH]; exact heap_alloc_new _ _
  have hHw : w.heap.size ≤ H := by rw [hH]; exact Nat.le_refl _
  have t1 : decide ((80 : Int) < 80) = false := by decide
  have hrW := hr.below bW
  have HN := fun (o : Nat) (ho : o ≤ 76) (w' : World) (h : Rd w' A (b.map bv)) => HdNum (b.drop o) (80 - o) (by rw [List.length_drop, hn]) (by omega) (subA A c o 1) (c - o) w' (by have := h.sub c o 1 (by rw [List.length_map, hn]; omega); rw [Nat.mul_one] at this; rw [List.map_drop]; exact this)
  have HN0 := fun (w' : World) (h : Rd w' A (b.map bv)) => HdNum b 80 hn (by omega) A c w' h
  obtain ⟨x, hx⟩ : ∃ x, x = hdOf b := ⟨_, rfl⟩
  have xok : x.ok := by rw [hx]; exact hdOf_ok hn
  have x68 := hdc_length xok
  rw [← hx]
  have e0 : Cm.le (b.take 4) = x.ver := by rw [hx]; rfl
  have e3 : Cm.le ((b.drop 68).take 4) = x.time := by rw [hx]; rfl
  have e4 : Cm.le ((b.drop 72).take 4) = x.bits := by rw [hx]; rfl
  have e5 : Cm.le ((b.drop 76).take 4) = x.nonce := by rw [hx]; rfl
  have e1 : (b.drop 4).take 32 = x.prev := by rw [hx]; rfl
  have e2 : (b.drop 36).take 32 = x.root := by rw [hx]; rfl
  rw [e0] at HN0
  have HN3 := HN 68 (by omega)
  have HN4 := HN 72 (by omega)
  have HN5 := HN 76 (by omega)
  rw [e3] at HN3
  rw [e4] at HN4
  rw [e5] at HN5
  clear HN e0 e3 e4 e5
  replace hW := Lib.hid hW
  replace hH := Lib.hid hH
  replace hx := Lib.hid hx
  replace hzl := Lib.hid hzl
  replace e1 := Lib.hid e1
  replace e2 := Lib.hid e2
  replace HN0 := Lib.hid HN0
  replace HN3 := Lib.hid HN3
  replace HN4 := Lib.hid HN4
  replace HN5 := Lib.hid HN5
  replace hn := Lib.hid hn
  have m1 : (68 : Int) ≤ (c : Int) := by omega
  have m2 : (36 : Int) ≤ (c : Int) := by omega
  go_enter Tryd.func15, Tryd.ntmps15
  go_upto_region 1 with fail
  rw [← hW.out, ← hH.out]
  go_upto_region 5 with fail
  refine wp_region_relT 13 [(12, fun v w' => ∃ g, v = .pointer (some ⟨g, 0, none⟩) ∧ W.heap.size ≤ g ∧ Av w' g 26 zs)] Ext (by kernel_rfl) (by kernel_rfl) (by kernel_rfl) (by kernel_rfl) (by kernel_rfl) Ext.refl Ext.trans (by
      intro p hp v w w' hR
      simp only [List.mem_singleton] at hp
      subst hp
      rintro ⟨g, e, h1, h2⟩
      exact ⟨g, e, h1, h2.below hR⟩) ?_
  refine relMove Ext.refl rfl rfl rfl rfl _ (.inl rfl) (by conv => lhs; whnf) (by simp only [List.set_cons_succ, List.set_cons_zero]; rfl) ?_
  refine relCall1 rfl rfl rfl rfl (c := .int .u32 (x.ver : Int)) 31 #[.slice A 80 c] (fun w => by go_simp) (fun w hw => (HN0.out w (hrW.below hw.drew)).mono ?_) (by simp only [List.set_cons_succ, List.set_cons_zero]; rfl) ?_
  · rintro e w' ⟨rfl, rfl⟩
    exact ⟨rfl, Ext.refl _⟩
  refine relMove Ext.refl rfl rfl rfl rfl _ (.inl rfl) (by conv => lhs; whnf) (by simp only [List.set_cons_succ, List.set_cons_zero]; rfl) ?_
  refine relPure Ext.refl rfl rfl rfl rfl (c := .slice (subA A c 68 1) 12 (c - 68)) (fun w _ => by go_simp; first | done | rfl) (by simp only [List.set_cons_succ, List.set_cons_zero]; rfl) ?_
  refine relCall1 rfl rfl rfl rfl (c := .int .u32 (x.time : Int)) 31 #[.slice (subA A c 68 1) 12 (c - 68)] (fun w => by go_simp) (fun w hw => (HN3.out w (hrW.below hw.drew)).mono ?_) (by simp only [List.set_cons_succ, List.set_cons_zero]; rfl) ?_
  · rintro e w' ⟨rfl, rfl⟩
    exact ⟨rfl, Ext.refl _⟩
  refine relMove Ext.refl rfl rfl rfl rfl _ (.inl rfl) (by conv => lhs; whnf) (by simp only [List.set_cons_succ, List.set_cons_zero]; rfl) ?_
  refine relPure Ext.refl rfl rfl rfl rfl (c := .slice (subA A c 72 1) 8 (c - 72)) (fun w _ => by go_simp; first | done | rfl) (by simp only [List.set_cons_succ, List.set_cons_zero]; rfl) ?_
  refine relCall1 rfl rfl rfl rfl (c := .int .u32 (x.bits : Int)) 31 #[.slice (subA A c 72 1) 8 (c - 72)] (fun w => by go_simp) (fun w hw => (HN4.out w (hrW.below hw.drew)).mono ?_) (by simp only [List.set_cons_succ, List.set_cons_zero]; rfl) ?_
  · rintro e w' ⟨rfl, rfl⟩
    exact ⟨rfl, Ext.refl _⟩
  refine relMove Ext.refl rfl rfl rfl rfl _ (.inl rfl) (by conv => lhs; whnf) (by simp only [List.set_cons_succ, List.set_cons_zero]; rfl) ?_
  refine relPure Ext.refl rfl rfl rfl rfl (c := .slice (subA A c 76 1) 4 (c - 76)) (fun w _ => by go_simp; first | done | rfl) (by simp only [List.set_cons_succ, List.set_cons_zero]; rfl) ?_
  refine relCall1 rfl rfl rfl rfl (c := .int .u32 (x.nonce : Int)) 31 #[.slice (subA A c 76 1) 4 (c - 76)] (fun w => by go_simp) (fun w hw => (HN5.out w (hrW.below hw.drew)).mono ?_) (by simp only [List.set_cons_succ, List.set_cons_zero]; rfl) ?_
  · rintro e w' ⟨rfl, rfl⟩
    exact ⟨rfl, Ext.refl _⟩
  refine relPure Ext.refl rfl rfl rfl rfl (c := .agg (hdc ⟨x.ver, List.replicate 32 0, List.replicate 32 0, x.time, x.bits, x.nonce⟩).toArray) (fun w _ => by kernel_rfl) (by simp only [List.set_cons_succ, List.set_cons_zero]; rfl) ?_
  refine relWord _ rfl (fun w hw => fill_none rfl (relOp_yes rfl ?_)) ?_
  · go_simp
    exact ⟨(Below.refl _ _).alloc (Nat.le_refl _) _, _, rfl, hw.drew.size, heap_alloc_new _ _⟩
  refine relEnd fun w1 hw1 => fill_take rfl rfl fun v' hv' => fill_end ?_
  simp only [List.set_cons_succ, List.set_cons_zero, List.drop_succ_cons, List.drop_zero]
  obtain ⟨G, rfl, hWG, zG⟩ := hv'
  have b1 := bW.trans (hw1.drew.mono bW.size)
  have r1 := rW.below hw1.drew
  have q1 := hrW.below hw1.drew
  have hHG : H < G := Nat.lt_of_lt_of_le rW.lt hWG
  have hwG : w.heap.size ≤ G := Nat.le_trans bW.size hWG
  obtain ⟨x0, hx0⟩ : ∃ x0 : Hd, x0 = ⟨x.ver, List.replicate 32 0, List.replicate 32 0, x.time, x.bits, x.nonce⟩ := ⟨_, rfl⟩
  have ok0 : x0.ok := by rw [hx0]; exact ⟨xok.1, by simp, by simp, xok.2.2.2.1, xok.2.2.2.2.1, xok.2.2.2.2.2⟩
  have l0 := hdc_length ok0
  have one0 := List.all_eq_true.2 (hdc_one x0)
  rw [← hx0]
  go_upto_region 6 with ((with_reducible refine wpList_storeFA 26 b1 zG hwG (hdc x0) ?_ ?_ 68 l0 ?_ ?_ ?_ ?_); rfl; rfl; kernel_rfl; exact hzl.out; exact one0; intro w2 a2 b2 k2 z2)
  have r2 := r1.same (k2 _ (Nat.ne_of_lt hHG))
  have q2 : Rd w2 A (b.map bv) := by
    rcases hr with e | ⟨bb, oo, e, hcc⟩
    · exact .inl e
    · exact .inr ⟨bb, oo, e, fun j u hu => (World.cell?_of_block (a := ⟨bb, oo + j, none⟩) (b2.block bb (World.block_lt_of_cell? w _ (hcc j u hu)))).trans (hcc j u hu)⟩
  clear zG r1 q1 hrW
  obtain ⟨x1, hx1⟩ : ∃ x1 : Hd, x1 = { x0 with prev := x.prev } := ⟨_, rfl⟩
  have ok1 : x1.ok := by rw [hx1]; exact ⟨ok0.1, xok.2.1, ok0.2.2.1, ok0.2.2.2.1, ok0.2.2.2.2.1, ok0.2.2.2.2.2⟩
  have s1 := hdc_set1 ok0 xok.2.1
  rw [← hx1] at s1
  have hp32 : (x.prev.map bv).length = 32 := by rw [List.length_map, xok.2.1]
  have hr32 : (x.root.map bv).length = 32 := by rw [List.length_map, xok.2.2.1]
  go_wp2_with fail
  refine wp_region_relT 4 [] Ext (by kernel_rfl) (by kernel_rfl) (by kernel_rfl) (by kernel_rfl) (by kernel_rfl) Ext.refl Ext.trans (by intro p hp; cases hp) ?_
  refine relPure Ext.refl rfl rfl rfl rfl (c := .pointer (some ⟨G, 1, none⟩)) (fun w _ => by go_simp; first | done | rfl) (by simp only [List.set_cons_succ, List.set_cons_zero]; rfl) ?_
  refine relPure Ext.refl rfl rfl rfl rfl (c := .slice (some ⟨G, 1, none⟩) 32 32) (fun w _ => by go_simp; first | done | rfl) (by simp only [List.set_cons_succ, List.set_cons_zero]; rfl) ?_
  refine relMove Ext.refl rfl rfl rfl rfl _ (.inl rfl) (by conv => lhs; whnf) (by simp only [List.set_cons_succ, List.set_cons_zero]; rfl) ?_
  refine relPure Ext.refl rfl rfl rfl rfl (c := .slice (subA A c 4 1) 32 (c - 4)) (fun w _ => by go_simp; first | done | rfl) (by simp only [List.set_cons_succ, List.set_cons_zero]; rfl) ?_
  refine relEnd fun w3 hw3 => fill_end ?_
  have a3 := a2.below hw3.drew
  have r3 := r2.below hw3.drew
  have q3 := q2.below hw3.drew
  have b3 := b2.trans (hw3.drew.mono b2.size)
  have p3 : Rd w3 (subA A c 4 1) (x.prev.map bv) := by
    have := (q3.sub c 4 1 (by rw [List.length_map, hn.out]; omega)).take 32
    rw [Nat.mul_one, ← List.map_drop, ← List.map_take, e1.out] at this
    exact this
  simp only [List.drop_succ_cons, List.drop_zero]
  (refine wpList_copyF a3 5 Tryd.underlying37 size_u8' 1 32 32 (subA A c 4 1) 32 (c - 4) (x.prev.map bv) p3 hp32 (by rw [hp32, l0]; omega) (bv_one _) rfl rfl ?_; intro w4 a4 f4)
  rw [hp32] at a4
  rw [s1] at a4
  have r4 := f4.av r3 (by omega)
  have q4 : Rd w4 A (b.map bv) := by
    rcases hr with e | ⟨bb, oo, e, hcc⟩
    · exact .inl e
    · exact .inr ⟨bb, oo, e, fun j u hu => (World.cell?_of_block (a := ⟨bb, oo + j, none⟩) ((b3.trans (f4.below (B := w.heap.size) (fun k hk => by omega) b3.size)).block bb (World.block_lt_of_cell? w _ (hcc j u hu)))).trans (hcc j u hu)⟩
  have b4 := b3.trans (f4.below (B := w.heap.size) (fun k hk => by omega) b3.size)
  have s2 := hdc_set2 ok1 xok.2.2.1
  have l1 := hdc_length ok1
  have ex : { x1 with root := x.root } = x := by rw [hx1, hx0]
  rw [ex] at s2
  go_wp2_with fail
  refine wp_region_relT 4 [] Ext (by kernel_rfl) (by kernel_rfl) (by kernel_rfl) (by kernel_rfl) (by kernel_rfl) Ext.refl Ext.trans (by intro p hp; cases hp) ?_
  refine relPure Ext.refl rfl rfl rfl rfl (c := .pointer (some ⟨G, 33, none⟩)) (fun w _ => by go_simp; first | done | rfl) (by simp only [List.set_cons_succ, List.set_cons_zero]; rfl) ?_
  refine relPure Ext.refl rfl rfl rfl rfl (c := .slice (some ⟨G, 33, none⟩) 32 32) (fun w _ => by go_simp; first | done | rfl) (by simp only [List.set_cons_succ, List.set_cons_zero]; rfl) ?_
  refine relMove Ext.refl rfl rfl rfl rfl _ (.inl rfl) (by conv => lhs; whnf) (by simp only [List.set_cons_succ, List.set_cons_zero]; rfl) ?_
  refine relPure Ext.refl rfl rfl rfl rfl (c := .slice (subA A c 36 1) 32 (c - 36)) (fun w _ => by go_simp; first | done | rfl) (by simp only [List.set_cons_succ, List.set_cons_zero]; rfl) ?_
  refine relEnd fun w5 hw5 => fill_end ?_
  have a5 := a4.below hw5.drew
  have r5 := r4.below hw5.drew
  have q5 := q4.below hw5.drew
  have b5 := b4.trans (hw5.drew.mono b4.size)
  have p5 : Rd w5 (subA A c 36 1) (x.root.map bv) := by
    have := (q5.sub c 36 1 (by rw [List.length_map, hn.out]; omega)).take 32
    rw [Nat.mul_one, ← List.map_drop, ← List.map_take, e2.out] at this
    exact this
  simp only [List.drop_succ_cons, List.drop_zero]
  (refine wpList_copyF a5 5 Tryd.underlying37 size_u8' 33 32 32 (subA A c 36 1) 32 (c - 36) (x.root.map bv) p5 hr32 (by rw [hr32, l1]; omega) (bv_one _) rfl rfl ?_; intro w6 a6 f6)
  rw [hr32] at a6
  rw [s2] at a6
  have r6 := f6.av r5 (by omega)
  have b6 := b5.trans (f6.below (B := w.heap.size) (fun k hk => by omega) b5.size)
  have onex := List.all_eq_true.2 (hdc_one x)
  go_wp2_with (first
    | ((with_reducible refine wpList_loadF 26 a6 ?_ _ 68 x68 Tryd.underlying26 ?_ ?_ ?_); rfl; rfl; kernel_rfl)
    | ((with_reducible refine wpList_storeFA 26 b6 r6 hHw (hdc x) ?_ ?_ 68 x68 ?_ ?_ ?_ ?_); rfl; rfl; kernel_rfl; exact hzl.out; exact onex; intro w7 a7 b7 k7 z7))
  refine bodyPost_ret (v := .tuple #[.agg (hdc x).toArray, .int .i64 0]) ((results_cellU (C := hdc x) (by rfl) (by rfl) a7 _ Tryd.underlying26 rfl 68 x68 (by kernel_rfl)).trans (by rfl)) (by rfl) ?_
  exact ⟨rfl, b7⟩
/-- what header.Get answers -/
theorem HdGet (b : List UInt8) (A : Option Addr) (n c : Nat) (hn : b.length = n) (hc : n ≤ c) (w : World) (hr : Rd w A (b.map bv)) :
    Calls Tryd.prog 15 #[.slice A n c] w fun r w' => r = .returned (.tuple #[.agg (hdc (hdGet b).1).toArray, .int .i64 ((hdGet b).2 : Int)]) ∧ Below w.heap.size w w' := by
  unfold hdGet
  by_cases h1 : b.length < 80
  · rw [if_pos h1]
    exact HdGet_bad 1 A n c (.inl ⟨by omega, rfl⟩) w
  · rw [if_neg h1]
    by_cases h2 : 80 < b.length
    · rw [if_pos h2]
      exact HdGet_bad 3 A n c (.inr ⟨by omega, rfl⟩) w
    · rw [if_neg h2]
      obtain rfl : n = 80 := by omega
      exact HdGet_ok b A c hn hc w hr
end Go.Proofs.YtjgdmpbaikhflaaDoor
