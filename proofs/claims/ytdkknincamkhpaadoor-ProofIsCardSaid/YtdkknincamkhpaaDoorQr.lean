/- proof.climber.node: a node without nodes below. -/
import Derived.Test.YtdkknincamkhpaaDoorPr13
namespace Go.Proofs.YtdkknincamkhpaaDoor
open Go.RowKit
attribute [local go_sem high] slB_lh slB_l slB_h
set_option maxRecDepth 100000 in
set_option maxHeartbeats 8000000 in
theorem PNode_no (fl : List UInt8) (hs : List (List UInt8)) (h32 : All32 hs) (tot : Nat) (Ah : Option Addr) (nh ch : Nat) (Af : Option Addr) (nf cf : Nat) (pos : Nat) (C : Nat) (hnh : hs.length = nh) (hnf : fl.length = nf) (hnf2 : nf ≤ 10000) (hnh2 : nh ≤ 10000) (w0 : World) (hC0 : w0.heap.size ≤ C) (hrh : Rd w0 Ah (hcl hs)) (hrf : Rd w0 Af (fl.map bv)) (d k : Nat) (x : List UInt8) (hd : pDig fl d = some false) (hx : hs[k]? = some x) (v : Value) (h : Int) (I : Int) (w : World) (hbw : Below w0.heap.size w0 w) (hA : Av w C 71 (clc tot Ah nh ch Af nf cf (pos : Int) d k v)) :
    Calls Tryd.prog 32 #[.pointer (some ⟨C, 0, none⟩), .int .i64 h, .int .i64 I] w fun e w' => e = .returned (.agg (hcs x)) ∧ Av w' C 71 (clc tot Ah nh ch Af nf cf (pos : Int) (d + 1) (k + 1) v) ∧ Fr (fun j => j = C) w w' := by
  obtain ⟨hkl, hxe⟩ := List.getElem?_eq_some_iff.1 hx
  have hx32 : x.length = 32 := h32 x (by rw [← hxe]; exact List.getElem_mem hkl)
  have hgd : hs.getD k [] = x := by rw [List.getD_eq_getElem?_getD, hx]; rfl
  have hkn : k < nh := by omega
  obtain ⟨hb, ho, e⟩ := hrh.someA (by intro h; have := congrArg List.length h; rw [hcl_length h32, hnh] at this; simp at this; omega)
  subst e
  have hrg : ∀ w', Rd w' (some ⟨hb, ho, none⟩) (hcl hs) → w'.rangeAt hb (ho + k * 32) (x.map bv) := fun w' h => by have := h.hash h32 k hkl; rwa [hgd] at this
  have hC1 : (x.map bv).all (·.oneCell') = true := List.all_eq_true.2 (bv_one x)
  have hC2 : (x.map bv).length = 32 := by rw [List.length_map, hx32]
  replace hxe := Lib.hid hxe
  replace hgd := Lib.hid hgd
  replace hx := Lib.hid hx
  replace hx32 := Lib.hid hx32
  replace hC1 := Lib.hid hC1
  replace hC2 := Lib.hid hC2
  replace hrg := Lib.hid hrg
  unfold clc at hA
  have hlt := pDig_some hd
  obtain ⟨x0, hg, hv⟩ := dig_val hd
  obtain ⟨q, hq⟩ : ∃ q, q = d / 8 := ⟨_, rfl⟩
  obtain ⟨s, hs0⟩ : ∃ s, s = d % 8 := ⟨_, rfl⟩
  have e1 : (d : Int) / 8 = (q : Int) := by omega
  have e2 : (d : Int) % 8 = (s : Int) := by omega
  have s0 : (0 : Int) ≤ (s : Int) := by omega
  have s8 : (s : Int) < 8 := by omega
  have hqn : (q : Int) < (nf : Int) := by omega
  have q0 : (0 : Int) ≤ (q : Int) := by omega
  rw [← hq] at hg
  rw [← hs0] at hv
  have hfne : fl.map bv ≠ [] := by intro h; have := congrArg List.length h; rw [List.length_map, hnf] at this; simp at this; omega
  obtain ⟨fb, fo, e⟩ := hrf.someA hfne
  subst e
  have hcell : ∀ w', Rd w' (some ⟨fb, fo, none⟩) (fl.map bv) → w'.cell? ⟨fb, fo + q, none⟩ = some (bv x0) := by
    intro w' h
    rcases h with h | ⟨b', o', hA', hc⟩
    · exact absurd h hfne
    · cases hA'
      exact hc q _ (by rw [List.getElem?_map, hg]; rfl)
  have hz := zeros_32
  rw [show List.replicate 32 (0 : UInt8) = zs32 from rfl] at hz
  obtain ⟨W, hW⟩ : ∃ W, W = w.alloc (.cells (zs32.map bv).toArray 28) := ⟨_, rfl⟩
  obtain ⟨H, hH⟩ : ∃ H, H = w.heap.size := ⟨_, rfl⟩
  have bW : Below w.heap.size w W := by rw [hW]; exact (Below.refl _ _).alloc (Nat.le_refl _) _
  have aH : Av W H 28 (zs32.map bv) := by rw [hW, hH]; exact heap_alloc_new _ _
  have aC := hA.below bW
  have bw0 := hbw.trans (bW.mono hbw.size)
  have r0 := hrf.below bw0
  have hxl := Cm.u8_lt x0
  have e3 : (d : Int).tmod 8 = (s : Int) := by rw [Int.tmod_eq_emod_of_nonneg (by omega)]; exact e2
  have wq : IntKind.i64.wrap (q : Int) = (q : Int) := by rw [IntKind.wrap_i64]; omega
  have ws : IntKind.i64.wrap (s : Int) = (s : Int) := by rw [IntKind.wrap_i64]; omega
  have hbit : bits .and .u8 ((x0.toNat : Int) / 2 ^ s) 1 = 0 := by
    rw [and_one_val _ _ hxl, hv]
    rfl
  have hHw : w.heap.size ≤ H := by omega
  have hHC : H ≠ C := by have := hA.lt; omega
  have hd9 : d ≤ 80000 := by omega
  clear hlt hv
  replace hbit := Lib.hid hbit
  replace hW := Lib.hid hW
  replace hH := Lib.hid hH
  replace hq := Lib.hid hq
  replace wq := Lib.hid wq
  replace ws := Lib.hid ws
  replace e1 := Lib.hid e1
  replace e2 := Lib.hid e2
  replace e3 := Lib.hid e3
  replace hs0 := Lib.hid hs0
  replace hg := Lib.hid hg
  replace hnf := Lib.hid hnf
  replace hnh := Lib.hid hnh
  replace hcell := Lib.hid hcell
  replace hfne := Lib.hid hfne
  replace hd := Lib.hid hd
  go_enter Tryd.func32, Tryd.ntmps32
  go_upto_region 1 with fail
  rw [← hW.out, ← hH.out]
  refine wp_region_rel [] Ext (by kernel_rfl) (by kernel_rfl) (by kernel_rfl) Ext.refl Ext.trans (by intro p hp; cases hp) ?_
  refine relMove Ext.refl rfl rfl rfl rfl _ (.inl rfl) (by conv => lhs; whnf) (by simp only [List.set_cons_succ, List.set_cons_zero]; rfl) ?_
  refine relPure Ext.refl rfl rfl rfl rfl (fun w _ => by go_simp; first | done | rfl) (by simp only [List.set_cons_succ, List.set_cons_zero]; rfl) ?_
  refine relPure Ext.refl rfl rfl rfl rfl (fun w _ => by go_simp; first | done | rfl) (by simp only [List.set_cons_succ, List.set_cons_zero]; rfl) ?_
  refine relPure Ext.refl rfl rfl rfl rfl (fun w _ => by go_simp; first | done | rfl) (by simp only [List.set_cons_succ, List.set_cons_zero]; rfl) ?_
  refine relPure Ext.refl rfl rfl rfl rfl (c := .slice (some ⟨fb, fo, none⟩) nf cf) (fun w hw => by have := (aC.below hw.drew).cell 2 _ rfl; go_simp; first | done | rfl) (by simp only [List.set_cons_succ, List.set_cons_zero]; rfl) ?_
  refine relMove Ext.refl rfl rfl rfl rfl _ (.inl rfl) (by conv => lhs; whnf) (by simp only [List.set_cons_succ, List.set_cons_zero]; rfl) ?_
  refine relPure Ext.refl rfl rfl rfl rfl (fun w _ => by go_simp; first | done | rfl) (by simp only [List.set_cons_succ, List.set_cons_zero]; rfl) ?_
  refine relPure Ext.refl rfl rfl rfl rfl (fun w _ => by go_simp; first | done | rfl) (by simp only [List.set_cons_succ, List.set_cons_zero]; rfl) ?_
  refine relPure Ext.refl rfl rfl rfl rfl (c := .int .i64 (d : Int)) (fun w hw => by have := (aC.below hw.drew).cell 4 _ rfl; go_simp; first | done | rfl) (by simp only [List.set_cons_succ, List.set_cons_zero]; rfl) ?_
  refine relPure Ext.refl rfl rfl rfl rfl (c := .int .i64 (q : Int)) (fun w _ => by have := e1.out; have := wq.out; go_simp; first | done | rfl) (by simp only [List.set_cons_succ, List.set_cons_zero]; rfl) ?_
  refine relPure Ext.refl rfl rfl rfl rfl (c := .pointer (some ⟨fb, fo + q, none⟩)) (fun w _ => by have := hqn; have := q0; go_simp; first | done | rfl) (by simp only [List.set_cons_succ, List.set_cons_zero]; rfl) ?_
  refine relPure Ext.refl rfl rfl rfl rfl (c := bv x0) (fun w hw => by have := hcell.out _ (r0.below hw.drew); go_simp; first | done | rfl) (by simp only [List.set_cons_succ, List.set_cons_zero]; rfl) ?_
  refine relMove Ext.refl rfl rfl rfl rfl _ (.inl rfl) (by conv => lhs; whnf) (by simp only [List.set_cons_succ, List.set_cons_zero]; rfl) ?_
  refine relPure Ext.refl rfl rfl rfl rfl (fun w _ => by go_simp; first | done | rfl) (by simp only [List.set_cons_succ, List.set_cons_zero]; rfl) ?_
  refine relPure Ext.refl rfl rfl rfl rfl (fun w _ => by go_simp; first | done | rfl) (by simp only [List.set_cons_succ, List.set_cons_zero]; rfl) ?_
  refine relPure Ext.refl rfl rfl rfl rfl (c := .int .i64 (d : Int)) (fun w hw => by have := (aC.below hw.drew).cell 4 _ rfl; go_simp; first | done | rfl) (by simp only [List.set_cons_succ, List.set_cons_zero]; rfl) ?_
  refine relPure Ext.refl rfl rfl rfl rfl (c := .int .i64 (s : Int)) (fun w _ => by have := e3.out; have := ws.out; go_simp; first | done | rfl) (by simp only [List.set_cons_succ, List.set_cons_zero]; rfl) ?_
  refine relPure Ext.refl rfl rfl rfl rfl (c := .int .u8 ((x0.toNat : Int) / 2 ^ s)) (fun w _ => by have := s0; have := s8; go_simp; first | done | rfl) (by simp only [List.set_cons_succ, List.set_cons_zero]; rfl) ?_
  refine relPure Ext.refl rfl rfl rfl rfl (c := .int .u8 0) (fun w _ => by have := hbit.out; go_simp; first | done | rfl) (by simp only [List.set_cons_succ, List.set_cons_zero]; rfl) ?_
  refine relMove Ext.refl rfl rfl rfl rfl _ (.inr rfl) (by conv => lhs; whnf) (by simp only [List.set_cons_succ, List.set_cons_zero]; rfl) ?_
  refine relEnd fun w2 hw2 => fill_end ?_
  have bw2 := bW.trans (hw2.drew.mono bW.size)
  have aH2 := aH.below hw2.drew
  have aC2 := aC.below hw2.drew
  have bz2 := hbw.trans (bw2.mono hbw.size)
  have c4 := aC2.cell 4 _ rfl
  have f4 := frozen_of_row _ _ 4 _ _ aC2
  clear aH aC bw0 r0 hw2
  go_upto_region 3 with fail
  obtain ⟨w3, hw3⟩ : ∃ w3, w3 = w2.setCell ⟨C, 4, none⟩ (.int .i64 ((d : Int) + 1)) := ⟨_, rfl⟩
  have fr3 := Fr.setCell w2 ⟨C, 4, none⟩ (.int .i64 ((d : Int) + 1))
  have aC3 := aC2.set 4 (.int .i64 ((d : Int) + 1))
  have aH3 := fr3.av aH2 hHC
  rw [← hw3] at fr3 aC3 aH3 ⊢
  have bz3 := bz2.trans (fr3.below (fun j e => by rw [e]; exact hC0) bz2.size)
  have kf3 := Fr.trans (Below.fr (S := fun j => j = C) bw2) fr3
  replace hw3 := Lib.hid hw3
  clear c4 f4 aH2 aC2 bw2 bz2 fr3
  have c5 := aC3.cell 5 _ rfl
  have f5 := frozen_of_row _ _ 5 _ _ aC3
  go_upto_region 5 with fail
  obtain ⟨w4, hw4⟩ : ∃ w4, w4 = w3.setCell ⟨C, 5, none⟩ (.int .i64 ((k : Int) + 1)) := ⟨_, rfl⟩
  have fr4 := Fr.setCell w3 ⟨C, 5, none⟩ (.int .i64 ((k : Int) + 1))
  have aC4 := aC3.set 5 (.int .i64 ((k : Int) + 1))
  have aH4 := fr4.av aH3 hHC
  rw [← hw4] at fr4 aC4 aH4 ⊢
  have bz4 := bz3.trans (fr4.below (fun j e => by rw [e]; exact hC0) bz3.size)
  have kf4 := kf3.trans fr4
  have rh4 := hrh.below bz4
  replace hw4 := Lib.hid hw4
  clear c5 f5 aH3 aC3 bz3 fr4 kf3
  have hk0 : (0 : Int) ≤ (k : Int) := by omega
  have hk1 : (k : Int) < (nh : Int) := by omega
  have wk : IntKind.i64.wrap (k : Int) = (k : Int) := by rw [IntKind.wrap_i64]; omega
  replace wk := Lib.hid wk
  refine wp_region_relT 12 [] Ext (by kernel_rfl) (by kernel_rfl) (by kernel_rfl) (by kernel_rfl) (by kernel_rfl) Ext.refl Ext.trans (by intro p hp; cases hp) ?_
  refine relMove Ext.refl rfl rfl rfl rfl _ (.inl rfl) (by conv => lhs; whnf) (by simp only [List.set_cons_succ, List.set_cons_zero]; rfl) ?_
  refine relPure Ext.refl rfl rfl rfl rfl (fun w _ => by go_simp; first | done | rfl) (by simp only [List.set_cons_succ, List.set_cons_zero]; rfl) ?_
  refine relPure Ext.refl rfl rfl rfl rfl (fun w _ => by go_simp; first | done | rfl) (by simp only [List.set_cons_succ, List.set_cons_zero]; rfl) ?_
  refine relPure Ext.refl rfl rfl rfl rfl (fun w _ => by go_simp; first | done | rfl) (by simp only [List.set_cons_succ, List.set_cons_zero]; rfl) ?_
  refine relPure Ext.refl rfl rfl rfl rfl (c := .slice (some ⟨hb, ho, none⟩) nh ch) (fun w hw => by have := (aC4.below hw.drew).cell 1 _ rfl; go_simp; first | done | rfl) (by simp only [List.set_cons_succ, List.set_cons_zero]; rfl) ?_
  refine relMove Ext.refl rfl rfl rfl rfl _ (.inl rfl) (by conv => lhs; whnf) (by simp only [List.set_cons_succ, List.set_cons_zero]; rfl) ?_
  refine relPure Ext.refl rfl rfl rfl rfl (fun w _ => by go_simp; first | done | rfl) (by simp only [List.set_cons_succ, List.set_cons_zero]; rfl) ?_
  refine relPure Ext.refl rfl rfl rfl rfl (fun w _ => by go_simp; first | done | rfl) (by simp only [List.set_cons_succ, List.set_cons_zero]; rfl) ?_
  refine relPure Ext.refl rfl rfl rfl rfl (c := .int .i64 ((k : Int) + 1)) (fun w hw => by have := (aC4.below hw.drew).cell 5 _ rfl; go_simp; first | done | rfl) (by simp only [List.set_cons_succ, List.set_cons_zero]; rfl) ?_
  refine relPure Ext.refl rfl rfl rfl rfl (c := .int .i64 (k : Int)) (fun w _ => by have := wk.out; go_simp; first | done | rfl) (by simp only [List.set_cons_succ, List.set_cons_zero]; rfl) ?_
  refine relPure Ext.refl rfl rfl rfl rfl (c := .pointer (some ⟨hb, ho + k * 32, none⟩)) (fun w _ => by have := hk0; have := hk1; go_simp; first | done | rfl) (by simp only [List.set_cons_succ, List.set_cons_zero]; rfl) ?_
  refine relPure Ext.refl rfl rfl rfl rfl (c := .agg (hcs x)) (fun w hw => exec_load_mid _ _ rfl hb (ho + k * 32) rfl (x.map bv) _ (hrg.out _ (rh4.below hw.drew)) Tryd.underlying28 rfl (by rw [hC2.out]; kernel_rfl)) (by simp only [List.set_cons_succ, List.set_cons_zero]; rfl) ?_
  refine relEnd fun w5 hw5 => fill_end ?_
  simp only [List.drop_succ_cons, List.drop_zero]
  have aH5 := aH4.below hw5.drew
  have aC5 := aC4.below hw5.drew
  have kf5 := kf4.trans (Below.fr hw5.drew)
  clear aH4 aC4 kf4 hw5 rh4
  go_wp2_with ((with_reducible refine wpList_storeFA 28 (Below.refl w.heap.size w5) aH5 hHw (x.map bv) ?_ ?_ 32 hC2.out ?_ ?_ ?_ ?_); rfl; rfl; kernel_rfl; rfl; exact hC1.out; intro w6 a6 b6 k6 z6)
  have f6 := Fr.ofStore b6 k6 z6
  refine bodyPost_ret (results_cell_row rfl _ _ H _ _ (0, 0) _ (by rfl) a6 Tryd.underlying28 rfl (by rw [List.size_toArray, hC2.out]; kernel_rfl)) rfl ?_
  exact ⟨rfl, f6.av aC5 (Ne.symm hHC), Fr.transNew kf5 f6 (fun j e => .inr (by rw [e]; exact hHw))⟩
set_option maxRecDepth 100000 in
set_option maxHeartbeats 8000000 in
theorem PNode_low (fl : List UInt8) (hs : List (List UInt8)) (h32 : All32 hs) (tot : Nat) (Ah : Option Addr) (nh ch : Nat) (Af : Option Addr) (nf cf : Nat) (pos : Nat) (C : Nat) (hnh : hs.length = nh) (hnf : fl.length = nf) (hnf2 : nf ≤ 10000) (hnh2 : nh ≤ 10000) (w0 : World) (hC0 : w0.heap.size ≤ C) (hrh : Rd w0 Ah (hcl hs)) (hrf : Rd w0 Af (fl.map bv)) (d k : Nat) (x : List UInt8) (hd : pDig fl d = some true) (hx : hs[k]? = some x) (v : Value)  (I : Int) (w : World) (hbw : Below w0.heap.size w0 w) (hA : Av w C 71 (clc tot Ah nh ch Af nf cf (pos : Int) d k v)) :
    Calls Tryd.prog 32 #[.pointer (some ⟨C, 0, none⟩), .int .i64 0, .int .i64 I] w fun e w' => e = .returned (.agg (hcs x)) ∧ Av w' C 71 (clc tot Ah nh ch Af nf cf (pos : Int) (d + 1) (k + 1) v) ∧ Fr (fun j => j = C) w w' := by
  obtain ⟨hkl, hxe⟩ := List.getElem?_eq_some_iff.1 hx
  have hx32 : x.length = 32 := h32 x (by rw [← hxe]; exact List.getElem_mem hkl)
  have hgd : hs.getD k [] = x := by rw [List.getD_eq_getElem?_getD, hx]; rfl
  have hkn : k < nh := by omega
  obtain ⟨hb, ho, e⟩ := hrh.someA (by intro h; have := congrArg List.length h; rw [hcl_length h32, hnh] at this; simp at this; omega)
  subst e
  have hrg : ∀ w', Rd w' (some ⟨hb, ho, none⟩) (hcl hs) → w'.rangeAt hb (ho + k * 32) (x.map bv) := fun w' h => by have := h.hash h32 k hkl; rwa [hgd] at this
  have hC1 : (x.map bv).all (·.oneCell') = true := List.all_eq_true.2 (bv_one x)
  have hC2 : (x.map bv).length = 32 := by rw [List.length_map, hx32]
  replace hxe := Lib.hid hxe
  replace hgd := Lib.hid hgd
  replace hx := Lib.hid hx
  replace hx32 := Lib.hid hx32
  replace hC1 := Lib.hid hC1
  replace hC2 := Lib.hid hC2
  replace hrg := Lib.hid hrg
  unfold clc at hA
  have hlt := pDig_some hd
  obtain ⟨x0, hg, hv⟩ := dig_val hd
  obtain ⟨q, hq⟩ : ∃ q, q = d / 8 := ⟨_, rfl⟩
  obtain ⟨s, hs0⟩ : ∃ s, s = d % 8 := ⟨_, rfl⟩
  have e1 : (d : Int) / 8 = (q : Int) := by omega
  have e2 : (d : Int) % 8 = (s : Int) := by omega
  have s0 : (0 : Int) ≤ (s : Int) := by omega
  have s8 : (s : Int) < 8 := by omega
  have hqn : (q : Int) < (nf : Int) := by omega
  have q0 : (0 : Int) ≤ (q : Int) := by omega
  rw [← hq] at hg
  rw [← hs0] at hv
  have hfne : fl.map bv ≠ [] := by intro h; have := congrArg List.length h; rw [List.length_map, hnf] at this; simp at this; omega
  obtain ⟨fb, fo, e⟩ := hrf.someA hfne
  subst e
  have hcell : ∀ w', Rd w' (some ⟨fb, fo, none⟩) (fl.map bv) → w'.cell? ⟨fb, fo + q, none⟩ = some (bv x0) := by
    intro w' h
    rcases h with h | ⟨b', o', hA', hc⟩
    · exact absurd h hfne
    · cases hA'
      exact hc q _ (by rw [List.getElem?_map, hg]; rfl)
  have hz := zeros_32
  rw [show List.replicate 32 (0 : UInt8) = zs32 from rfl] at hz
  obtain ⟨W, hW⟩ : ∃ W, W = w.alloc (.cells (zs32.map bv).toArray 28) := ⟨_, rfl⟩
  obtain ⟨H, hH⟩ : ∃ H, H = w.heap.size := ⟨_, rfl⟩
  have bW : Below w.heap.size w W := by rw [hW]; exact (Below.refl _ _).alloc (Nat.le_refl _) _
  have aH : Av W H 28 (zs32.map bv) := by rw [hW, hH]; exact heap_alloc_new _ _
  have aC := hA.below bW
  have bw0 := hbw.trans (bW.mono hbw.size)
  have r0 := hrf.below bw0
  have hxl := Cm.u8_lt x0
  have e3 : (d : Int).tmod 8 = (s : Int) := by rw [Int.tmod_eq_emod_of_nonneg (by omega)]; exact e2
  have wq : IntKind.i64.wrap (q : Int) = (q : Int) := by rw [IntKind.wrap_i64]; omega
  have ws : IntKind.i64.wrap (s : Int) = (s : Int) := by rw [IntKind.wrap_i64]; omega
  have hbit : bits .and .u8 ((x0.toNat : Int) / 2 ^ s) 1 = 1 := by
    rw [and_one_val _ _ hxl, hv]
    rfl
  have hHw : w.heap.size ≤ H := by omega
  have hHC : H ≠ C := by have := hA.lt; omega
  have hd9 : d ≤ 80000 := by omega
  clear hlt hv
  replace hbit := Lib.hid hbit
  replace hW := Lib.hid hW
  replace hH := Lib.hid hH
  replace hq := Lib.hid hq
  replace wq := Lib.hid wq
  replace ws := Lib.hid ws
  replace e1 := Lib.hid e1
  replace e2 := Lib.hid e2
  replace e3 := Lib.hid e3
  replace hs0 := Lib.hid hs0
  replace hg := Lib.hid hg
  replace hnf := Lib.hid hnf
  replace hnh := Lib.hid hnh
  replace hcell := Lib.hid hcell
  replace hfne := Lib.hid hfne
  replace hd := Lib.hid hd
  go_enter Tryd.func32, Tryd.ntmps32
  go_upto_region 1 with fail
  rw [← hW.out, ← hH.out]
  refine wp_region_rel [] Ext (by kernel_rfl) (by kernel_rfl) (by kernel_rfl) Ext.refl Ext.trans (by intro p hp; cases hp) ?_
  refine relMove Ext.refl rfl rfl rfl rfl _ (.inl rfl) (by conv => lhs; whnf) (by simp only [List.set_cons_succ, List.set_cons_zero]; rfl) ?_
  refine relPure Ext.refl rfl rfl rfl rfl (fun w _ => by go_simp; first | done | rfl) (by simp only [List.set_cons_succ, List.set_cons_zero]; rfl) ?_
  refine relPure Ext.refl rfl rfl rfl rfl (fun w _ => by go_simp; first | done | rfl) (by simp only [List.set_cons_succ, List.set_cons_zero]; rfl) ?_
  refine relPure Ext.refl rfl rfl rfl rfl (fun w _ => by go_simp; first | done | rfl) (by simp only [List.set_cons_succ, List.set_cons_zero]; rfl) ?_
  refine relPure Ext.refl rfl rfl rfl rfl (c := .slice (some ⟨fb, fo, none⟩) nf cf) (fun w hw => by have := (aC.below hw.drew).cell 2 _ rfl; go_simp; first | done | rfl) (by simp only [List.set_cons_succ, List.set_cons_zero]; rfl) ?_
  refine relMove Ext.refl rfl rfl rfl rfl _ (.inl rfl) (by conv => lhs; whnf) (by simp only [List.set_cons_succ, List.set_cons_zero]; rfl) ?_
  refine relPure Ext.refl rfl rfl rfl rfl (fun w _ => by go_simp; first | done | rfl) (by simp only [List.set_cons_succ, List.set_cons_zero]; rfl) ?_
  refine relPure Ext.refl rfl rfl rfl rfl (fun w _ => by go_simp; first | done | rfl) (by simp only [List.set_cons_succ, List.set_cons_zero]; rfl) ?_
  refine relPure Ext.refl rfl rfl rfl rfl (c := .int .i64 (d : Int)) (fun w hw => by have := (aC.below hw.drew).cell 4 _ rfl; go_simp; first | done | rfl) (by simp only [List.set_cons_succ, List.set_cons_zero]; rfl) ?_
  refine relPure Ext.refl rfl rfl rfl rfl (c := .int .i64 (q : Int)) (fun w _ => by have := e1.out; have := wq.out; go_simp; first | done | rfl) (by simp only [List.set_cons_succ, List.set_cons_zero]; rfl) ?_
  refine relPure Ext.refl rfl rfl rfl rfl (c := .pointer (some ⟨fb, fo + q, none⟩)) (fun w _ => by have := hqn; have := q0; go_simp; first | done | rfl) (by simp only [List.set_cons_succ, List.set_cons_zero]; rfl) ?_
  refine relPure Ext.refl rfl rfl rfl rfl (c := bv x0) (fun w hw => by have := hcell.out _ (r0.below hw.drew); go_simp; first | done | rfl) (by simp only [List.set_cons_succ, List.set_cons_zero]; rfl) ?_
  refine relMove Ext.refl rfl rfl rfl rfl _ (.inl rfl) (by conv => lhs; whnf) (by simp only [List.set_cons_succ, List.set_cons_zero]; rfl) ?_
  refine relPure Ext.refl rfl rfl rfl rfl (fun w _ => by go_simp; first | done | rfl) (by simp only [List.set_cons_succ, List.set_cons_zero]; rfl) ?_
  refine relPure Ext.refl rfl rfl rfl rfl (fun w _ => by go_simp; first | done | rfl) (by simp only [List.set_cons_succ, List.set_cons_zero]; rfl) ?_
  refine relPure Ext.refl rfl rfl rfl rfl (c := .int .i64 (d : Int)) (fun w hw => by have := (aC.below hw.drew).cell 4 _ rfl; go_simp; first | done | rfl) (by simp only [List.set_cons_succ, List.set_cons_zero]; rfl) ?_
  refine relPure Ext.refl rfl rfl rfl rfl (c := .int .i64 (s : Int)) (fun w _ => by have := e3.out; have := ws.out; go_simp; first | done | rfl) (by simp only [List.set_cons_succ, List.set_cons_zero]; rfl) ?_
  refine relPure Ext.refl rfl rfl rfl rfl (c := .int .u8 ((x0.toNat : Int) / 2 ^ s)) (fun w _ => by have := s0; have := s8; go_simp; first | done | rfl) (by simp only [List.set_cons_succ, List.set_cons_zero]; rfl) ?_
  refine relPure Ext.refl rfl rfl rfl rfl (c := .int .u8 1) (fun w _ => by have := hbit.out; go_simp; first | done | rfl) (by simp only [List.set_cons_succ, List.set_cons_zero]; rfl) ?_
  refine relMove Ext.refl rfl rfl rfl rfl _ (.inr rfl) (by conv => lhs; whnf) (by simp only [List.set_cons_succ, List.set_cons_zero]; rfl) ?_
  refine relEnd fun w2 hw2 => fill_end ?_
  have bw2 := bW.trans (hw2.drew.mono bW.size)
  have aH2 := aH.below hw2.drew
  have aC2 := aC.below hw2.drew
  have bz2 := hbw.trans (bw2.mono hbw.size)
  have c4 := aC2.cell 4 _ rfl
  have f4 := frozen_of_row _ _ 4 _ _ aC2
  clear aH aC bw0 r0 hw2
  go_upto_region 3 with fail
  obtain ⟨w3, hw3⟩ : ∃ w3, w3 = w2.setCell ⟨C, 4, none⟩ (.int .i64 ((d : Int) + 1)) := ⟨_, rfl⟩
  have fr3 := Fr.setCell w2 ⟨C, 4, none⟩ (.int .i64 ((d : Int) + 1))
  have aC3 := aC2.set 4 (.int .i64 ((d : Int) + 1))
  have aH3 := fr3.av aH2 hHC
  rw [← hw3] at fr3 aC3 aH3 ⊢
  have bz3 := bz2.trans (fr3.below (fun j e => by rw [e]; exact hC0) bz2.size)
  have kf3 := Fr.trans (Below.fr (S := fun j => j = C) bw2) fr3
  replace hw3 := Lib.hid hw3
  clear c4 f4 aH2 aC2 bw2 bz2 fr3
  have c5 := aC3.cell 5 _ rfl
  have f5 := frozen_of_row _ _ 5 _ _ aC3
  go_upto_region 5 with fail
  obtain ⟨w4, hw4⟩ : ∃ w4, w4 = w3.setCell ⟨C, 5, none⟩ (.int .i64 ((k : Int) + 1)) := ⟨_, rfl⟩
  have fr4 := Fr.setCell w3 ⟨C, 5, none⟩ (.int .i64 ((k : Int) + 1))
  have aC4 := aC3.set 5 (.int .i64 ((k : Int) + 1))
  have aH4 := fr4.av aH3 hHC
  rw [← hw4] at fr4 aC4 aH4 ⊢
  have bz4 := bz3.trans (fr4.below (fun j e => by rw [e]; exact hC0) bz3.size)
  have kf4 := kf3.trans fr4
  have rh4 := hrh.below bz4
  replace hw4 := Lib.hid hw4
  clear c5 f5 aH3 aC3 bz3 fr4 kf3
  have hk0 : (0 : Int) ≤ (k : Int) := by omega
  have hk1 : (k : Int) < (nh : Int) := by omega
  have wk : IntKind.i64.wrap (k : Int) = (k : Int) := by rw [IntKind.wrap_i64]; omega
  replace wk := Lib.hid wk
  refine wp_region_relT 12 [] Ext (by kernel_rfl) (by kernel_rfl) (by kernel_rfl) (by kernel_rfl) (by kernel_rfl) Ext.refl Ext.trans (by intro p hp; cases hp) ?_
  refine relMove Ext.refl rfl rfl rfl rfl _ (.inl rfl) (by conv => lhs; whnf) (by simp only [List.set_cons_succ, List.set_cons_zero]; rfl) ?_
  refine relPure Ext.refl rfl rfl rfl rfl (fun w _ => by go_simp; first | done | rfl) (by simp only [List.set_cons_succ, List.set_cons_zero]; rfl) ?_
  refine relPure Ext.refl rfl rfl rfl rfl (fun w _ => by go_simp; first | done | rfl) (by simp only [List.set_cons_succ, List.set_cons_zero]; rfl) ?_
  refine relPure Ext.refl rfl rfl rfl rfl (fun w _ => by go_simp; first | done | rfl) (by simp only [List.set_cons_succ, List.set_cons_zero]; rfl) ?_
  refine relPure Ext.refl rfl rfl rfl rfl (c := .slice (some ⟨hb, ho, none⟩) nh ch) (fun w hw => by have := (aC4.below hw.drew).cell 1 _ rfl; go_simp; first | done | rfl) (by simp only [List.set_cons_succ, List.set_cons_zero]; rfl) ?_
  refine relMove Ext.refl rfl rfl rfl rfl _ (.inl rfl) (by conv => lhs; whnf) (by simp only [List.set_cons_succ, List.set_cons_zero]; rfl) ?_
  refine relPure Ext.refl rfl rfl rfl rfl (fun w _ => by go_simp; first | done | rfl) (by simp only [List.set_cons_succ, List.set_cons_zero]; rfl) ?_
  refine relPure Ext.refl rfl rfl rfl rfl (fun w _ => by go_simp; first | done | rfl) (by simp only [List.set_cons_succ, List.set_cons_zero]; rfl) ?_
  refine relPure Ext.refl rfl rfl rfl rfl (c := .int .i64 ((k : Int) + 1)) (fun w hw => by have := (aC4.below hw.drew).cell 5 _ rfl; go_simp; first | done | rfl) (by simp only [List.set_cons_succ, List.set_cons_zero]; rfl) ?_
  refine relPure Ext.refl rfl rfl rfl rfl (c := .int .i64 (k : Int)) (fun w _ => by have := wk.out; go_simp; first | done | rfl) (by simp only [List.set_cons_succ, List.set_cons_zero]; rfl) ?_
  refine relPure Ext.refl rfl rfl rfl rfl (c := .pointer (some ⟨hb, ho + k * 32, none⟩)) (fun w _ => by have := hk0; have := hk1; go_simp; first | done | rfl) (by simp only [List.set_cons_succ, List.set_cons_zero]; rfl) ?_
  refine relPure Ext.refl rfl rfl rfl rfl (c := .agg (hcs x)) (fun w hw => exec_load_mid _ _ rfl hb (ho + k * 32) rfl (x.map bv) _ (hrg.out _ (rh4.below hw.drew)) Tryd.underlying28 rfl (by rw [hC2.out]; kernel_rfl)) (by simp only [List.set_cons_succ, List.set_cons_zero]; rfl) ?_
  refine relEnd fun w5 hw5 => fill_end ?_
  simp only [List.drop_succ_cons, List.drop_zero]
  have aH5 := aH4.below hw5.drew
  have aC5 := aC4.below hw5.drew
  have kf5 := kf4.trans (Below.fr hw5.drew)
  clear aH4 aC4 kf4 hw5 rh4
  go_wp2_with ((with_reducible refine wpList_storeFA 28 (Below.refl w.heap.size w5) aH5 hHw (x.map bv) ?_ ?_ 32 hC2.out ?_ ?_ ?_ ?_); rfl; rfl; kernel_rfl; rfl; exact hC1.out; intro w6 a6 b6 k6 z6)
  have f6 := Fr.ofStore b6 k6 z6
  refine bodyPost_ret (results_cell_row rfl _ _ H _ _ (0, 0) _ (by rfl) a6 Tryd.underlying28 rfl (by rw [List.size_toArray, hC2.out]; kernel_rfl)) rfl ?_
  exact ⟨rfl, f6.av aC5 (Ne.symm hHC), Fr.transNew kf5 f6 (fun j e => .inr (by rw [e]; exact hHw))⟩
end Go.Proofs.YtdkknincamkhpaaDoor
