/- The law ProofSteps: the walk. -/
import Derived.Test.YtdkknincamkhpaaDoorQy
import Derived.Test.YtdkknincamkhpaaDoorClc
import Derived.Test.YtdkknincamkhpaaDoorStr
namespace Go.Proofs.YtdkknincamkhpaaDoor
open Go.RowKit
attribute [local go_sem high] slB_lh slB_l slB_h
theorem strneq (a b : List UInt8) (p q : Operand) (w : World) : (do eqGuard .neq 9 p q (.string ⟨a.toArray⟩) (.string ⟨b.toArray⟩); binOp .neq 9 (.string ⟨a.toArray⟩) (.string ⟨b.toArray⟩) : Sem Value).run Tryd.prog w = .ok (.bool (!(a == b))) w := by
  go_simp
set_option maxRecDepth 100000 in
set_option maxHeartbeats 8000000 in
theorem pstp_0 (x : List UInt8) (A : Option Addr) (n c : Nat) (ki : Int) (h : 30 < n) (w : World) (hT : Tabs w) : Calls Tryd.prog 7 #[.agg (hcs x), .slice A n c, .int .i64 ki] w fun e w' => e = .returned (.bool true) ∧ Below w.heap.size w w' := by
  have t1 : decide ((30 : Int) < (n : Int)) = true := by simp; omega
  have t2 : decide (30 < n) = true := by simp; omega
  obtain ⟨X, hX⟩ : ∃ X, X = w.heap.size := ⟨_, rfl⟩
  obtain ⟨W, hW⟩ : ∃ W, W = w.alloc (.cells (x.map bv).toArray 28) := ⟨_, rfl⟩
  have bW : Below w.heap.size w W := by rw [hW]; exact (Below.refl _ _).alloc (Nat.le_refl _) _
  have aX : Av W X 28 (x.map bv) := by rw [hW, hX]; exact Av.new _ _ _
  have HA := Lib.hid (awake12 W (hT.below bW))
  replace hX := Lib.hid hX
  replace hW := Lib.hid hW
  go_enter Tryd.func7, Tryd.ntmps7
  go_upto_region 1 with fail
  rw [← hX.out]
  rw [show w.alloc (.cells (hcs x) 28) = W from hW.out.symm]
  go_upto_region 2 with (go_at_call 9; refine (HA.out).mono ?_; rintro e w1 ⟨rfl, b1⟩)
  have aX1 := aX.below b1
  have bw1 := bW.trans (b1.mono bW.size)
  clear HA aX b1
  go_wp2
  go_ret
  exact ⟨rfl, bw1⟩
set_option maxRecDepth 100000 in
set_option maxHeartbeats 16000000 in
theorem pstp_1 (x : List UInt8) (hx32 : x.length = 32) (p : List (List UInt8)) (h32 : All32 p) (A : Option Addr) (n c : Nat) (hn : p.length = n) (ki : Int) (k : Nat) (m1 : max ki 0 = (k : Int)) (hk : k < 9223372036854775808) (h30 : n ≤ 30) (w : World) (hr : Rd w A (hcl p)) (hT : Tabs w) : Calls Tryd.prog 7 #[.agg (hcs x), .slice A n c, .int .i64 ki] w fun e w' => e = .returned (.bool true) ∧ Below w.heap.size w w' := by
  have t1 : decide ((30 : Int) < (n : Int)) = false := by simp; omega
  have t2 : decide (30 < n) = false := by simp; omega
  obtain ⟨X, hX⟩ : ∃ X, X = w.heap.size := ⟨_, rfl⟩
  obtain ⟨W, hW⟩ : ∃ W, W = w.alloc (.cells (x.map bv).toArray 28) := ⟨_, rfl⟩
  have bW : Below w.heap.size w W := by rw [hW]; exact (Below.refl _ _).alloc (Nat.le_refl _) _
  have aX : Av W X 28 (x.map bv) := by rw [hW, hX]; exact Av.new _ _ _
  have HA := Lib.hid (awake12 W (hT.below bW))
  replace hX := Lib.hid hX
  replace hW := Lib.hid hW
  have HS := fun w' r t => PSteps x hx32 p h32 ki k m1 hk A n c hn (by omega) w' r t
  have HC := fun w' r t => Climb x hx32 p h32 ki k m1 hk A n c hn (by omega) w' r t
  have K64 := qSt_64 x p k hx32 h32
  have Kl : (qSt x p k).length = n := by rw [qSt_length, hn]
  have Kg := fun j hj => qSt_get p x k j hj
  have Kh := fun j hj => qSt_holds p h32 x hx32 k j hj
  have a0 := qAt_zero x p k
  have al := fun j => qAt_length x p k j hx32
  have aall : qAt x p k n = mClimb x p k := by rw [← hn]; exact qAt_all x p k
  rw [← aall] at HC
  obtain ⟨K, hK⟩ : ∃ K, K = qSt x p k := ⟨_, rfl⟩
  rw [← hK] at HS K64 Kl Kg Kh
  unfold StepsPost at HS
  simp only [Kl] at HS
  rw [hn] at Kg Kh
  have xv32 : (x.map bv).length = 32 := by rw [List.length_map, hx32]
  have xone : (x.map bv).all (·.oneCell') = true := List.all_eq_true.2 (bv_one x)
  replace xv32 := Lib.hid xv32
  replace xone := Lib.hid xone
  replace HS := Lib.hid HS
  replace HC := Lib.hid HC
  replace K64 := Lib.hid K64
  replace Kl := Lib.hid Kl
  replace Kg := Lib.hid Kg
  replace Kh := Lib.hid Kh
  replace a0 := Lib.hid a0
  replace al := Lib.hid al
  replace aall := Lib.hid aall
  replace hK := Lib.hid hK
  replace hn := Lib.hid hn
  replace hx32 := Lib.hid hx32
  clear m1
  go_enter Tryd.func7, Tryd.ntmps7
  go_upto_region 1 with fail
  rw [← hX.out]
  rw [show w.alloc (.cells (hcs x) 28) = W from hW.out.symm]
  go_upto_region 2 with (go_at_call 9; refine (HA.out).mono ?_; rintro e w1 ⟨rfl, b1⟩)
  have aX1 := aX.below b1
  have bw1 := bW.trans (b1.mono bW.size)
  clear HA aX b1
  go_upto_region 5 with (first
    | ((with_reducible refine wpList_loadF 28 aX1 ?_ _ 32 xv32.out Tryd.underlying28 ?_ ?_ ?_); rfl; rfl; kernel_rfl)
    | (go_at_call 20; refine (HS.out w1 (hr.below bw1) (hT.below bw1)).mono ?_; rintro e w2 ⟨b2, A2, c2, gs, rfl, hc2, hA2, hgs, rd2, st2⟩))
  have aX2 := aX1.below b2
  have bw2 := bw1.trans (b2.mono bw1.size)
  replace hA2 := Lib.hid hA2
  replace hgs := Lib.hid hgs
  clear aX1 b2 bw1 HS
  go_upto_region 8 with (first
    | ((with_reducible refine wpList_loadF 28 aX2 ?_ _ 32 xv32.out Tryd.underlying28 ?_ ?_ ?_); rfl; rfl; kernel_rfl)
    | ((with_reducible refine wpList_storeF 28 ((Below.refl w2.heap.size w2).alloc (Nat.le_refl _) _) (heap_alloc_new _ _) (Nat.le_refl _) (x.map bv) ?_ ?_ 32 xv32.out ?_ ?_ ?_ ?_); rfl; rfl; kernel_rfl; rfl; exact xone.out; intro w3 a9 b3 k3 z3; clear k3; replace z3 := Lib.hid z3))
  obtain ⟨G9, hG⟩ : ∃ G9, G9 = w2.heap.size := ⟨_, rfl⟩
  rw [← hG] at a9 ⊢
  have hst9 : ∀ g ∈ gs, g ≠ G9 := fun g hg => by have := st2.lt g hg; omega
  have hG2 : w2.heap.size ≤ G9 := by omega
  replace hst9 := Lib.hid hst9
  replace hG := Lib.hid hG
  go_wp2
  go_loopw [10] (fun i wr => ∃ (j : Nat) (at0 : List UInt8), j ≤ n ∧ i = .int .i64 (j : Int) ∧ Hid (at0 = qAt x p k j) ∧ at0.length = 32 ∧ Below w2.heap.size w2 wr ∧ Av wr G9 28 (at0.map bv)) (fun i _ => n - (intOf i).toNat)
  case atStart => exact ⟨0, x, Nat.zero_le _, rfl, Lib.hid a0.out.symm, hx32.out, b3, a9⟩
  case round =>
    clear a9 b3
    obtain ⟨j, at0, hj, rfl, hat, hal, bw, a9⟩ := hrel
    replace hal := Lib.hid hal
    by_cases hlt : j < n
    · have u1 : decide ((j : Int) < (n : Int)) = true := by simp; omega
      have n0 : 0 ≤ (j : Int) := by omega
      have n1 : (j : Int) < (n : Int) := by omega
      have hjK : j < K.length := by rw [Kl.out]; exact hlt
      have hgl : gs.length = n := st2.1.trans Kl.out
      obtain ⟨g, hg⟩ : ∃ g, gs[j]? = some g := ⟨_, List.getElem?_eq_getElem (by rw [hgl]; exact hlt)⟩
      obtain ⟨t, ht⟩ : ∃ t, K[j]? = some t := ⟨_, List.getElem?_eq_getElem hjK⟩
      have t64 := K64.out t (List.mem_of_getElem? ht)
      have hgd : K.getD j [] = t := by rw [List.getD_eq_getElem?_getD, ht]; rfl
      have q1 := (Kg.out j hlt).2
      have q2 := Kh.out j hlt
      rw [hgd] at q1 q2
      rw [← hat.out] at q2
      have at1l0 := al.out (j + 1)
      obtain ⟨at1, hat10⟩ : ∃ at1, at1 = qAt x p k (j + 1) := ⟨_, rfl⟩
      have hat1 := Lib.hid hat10
      rw [← hat10] at q1 at1l0
      have at1l := Lib.hid at1l0
      have HD := fun w' r tt => Double t (some ⟨g, 0, none⟩) 64 64 t64 (Nat.le_refl _) (by omega) w' r tt
      rw [← q1] at HD
      obtain ⟨tk, htk⟩ : ∃ tk, tk = t.take 32 := ⟨_, rfl⟩
      obtain ⟨td, htd⟩ : ∃ td, td = t.drop 32 := ⟨_, rfl⟩
      have tk32 : tk.length = 32 := by rw [htk, List.length_take, t64]; rfl
      have td32 : td.length = 32 := by rw [htd, List.length_drop, t64]
      rw [← htk, ← htd] at q2
      have ag2 := st2.2 j g t hg ht
      have rtk0 : ∀ w', Below wr.heap.size wr w' → Rd w' (some ⟨g, 0, none⟩) (tk.map bv) := fun w' b => by
        have := ((ag2.below bw).below b).rd.take 32
        rwa [← List.map_take, ← htk] at this
      have rtd0 : ∀ w', Below wr.heap.size wr w' → Rd w' (some ⟨g, 32, none⟩) (td.map bv) := fun w' b => by
        have := ((ag2.below bw).below b).rd.drop 32
        rwa [← List.map_drop, ← htd, Nat.zero_add] at this
      have rat0 : ∀ w', Below wr.heap.size wr w' → Rd w' (some ⟨G9, 0, none⟩) (at0.map bv) := fun w' b => (a9.below b).rd
      have e1 := slc_get hg
      obtain ⟨bb, oo, rfl⟩ := rd2.someA (by intro e; rw [e] at e1; cases e1)
      have hc1 : ∀ w', Rd w' (some ⟨bb, oo, none⟩) (slc gs) → w'.cell? ⟨bb, oo + j, none⟩ = some (.slice (some ⟨g, 0, none⟩) 64 64) := by
        intro w' h
        rcases h with h | ⟨b', o', hA', hc⟩
        · rw [h] at e1; cases e1
        · cases hA'; exact hc j _ e1
      have agr := ag2.below bw
      have at32 := hal
      have atv32 : (at0.map bv).length = 32 := by rw [List.length_map, hal.out]
      have at1v32 : (at1.map bv).length = 32 := by rw [List.length_map, at1l0]
      have at1one : (at1.map bv).all (·.oneCell') = true := List.all_eq_true.2 (bv_one at1)
      obtain ⟨C1, hC1⟩ : ∃ C1, C1 = (tk == at0) := ⟨_, rfl⟩
      obtain ⟨C2, hC2⟩ : ∃ C2, C2 = (td == at0) := ⟨_, rfl⟩
      have S1 := fun p q w => strneq tk at0 p q w
      have S2 := fun p q w => strneq td at0 p q w
      rw [← hC1] at S1
      rw [← hC2] at S2
      have hor : C1 = true ∨ (C1 = false ∧ C2 = true) := by
        rcases q2 with q2 | q2
        · exact .inl (by rw [hC1, q2]; simp)
        · by_cases h : tk = at0
          · exact .inl (by rw [hC1, h]; simp)
          · exact .inr ⟨by rw [hC1]; exact beq_eq_false_iff_ne.2 h, by rw [hC2, q2]; simp⟩
      clear q1 q2 hat10 at1l0 ht hgd hg hgl hjK e1 ag2 htk htd hC1 hC2
      have rtk := Lib.hid rtk0
      have rtd := Lib.hid rtd0
      have rat := Lib.hid rat0
      clear rtk0 rtd0 rat0
      replace HD := Lib.hid HD
      replace tk32 := Lib.hid tk32
      replace td32 := Lib.hid td32
      replace t64 := Lib.hid t64
      replace hc1 := Lib.hid hc1
      replace atv32 := Lib.hid atv32
      replace at1v32 := Lib.hid at1v32
      replace at1one := Lib.hid at1one
      replace S1 := Lib.hid S1
      replace S2 := Lib.hid S2
      rcases hor with rfl | ⟨rfl, rfl⟩
      · go_upto_region 11 with fail
        refine wp_region_rel [] Ext (by kernel_rfl) (by kernel_rfl) (by kernel_rfl) Ext.refl Ext.trans (by intro p hp; cases hp) ?_
        refine relMove Ext.refl rfl rfl rfl rfl _ (.inl rfl) (by conv => lhs; whnf) (by simp only [List.set_cons_succ, List.set_cons_zero]; rfl) ?_
        refine relMove Ext.refl rfl rfl rfl rfl _ (.inl rfl) (by conv => lhs; whnf) (by simp only [List.set_cons_succ, List.set_cons_zero]; rfl) ?_
        refine relPure Ext.refl rfl rfl rfl rfl (c := .pointer (some ⟨bb, oo + j, none⟩)) (fun w _ => by go_simp; first | done | rfl) (by simp only [List.set_cons_succ, List.set_cons_zero]; rfl) ?_
        refine relPure Ext.refl rfl rfl rfl rfl (c := .slice (some ⟨g, 0, none⟩) 64 64) (fun w hw => by have := hc1.out _ (rd2.below (bw.trans (hw.drew.mono bw.size))); go_simp; first | done | rfl) (by simp only [List.set_cons_succ, List.set_cons_zero]; rfl) ?_
        refine relPure Ext.refl rfl rfl rfl rfl (c := .int .i64 64) (fun w _ => by go_simp; first | done | rfl) (by simp only [List.set_cons_succ, List.set_cons_zero]; rfl) ?_
        refine relPure Ext.refl rfl rfl rfl rfl (c := .bool false) (fun w _ => by go_simp; first | done | rfl) (by simp only [List.set_cons_succ, List.set_cons_zero]; rfl) ?_
        refine relMove Ext.refl rfl rfl rfl rfl _ (.inl rfl) (by conv => lhs; whnf) (by simp only [List.set_cons_succ, List.set_cons_zero]; rfl) ?_
        refine relMove Ext.refl rfl rfl rfl rfl _ (.inl rfl) (by conv => lhs; whnf) (by simp only [List.set_cons_succ, List.set_cons_zero]; rfl) ?_
        refine relMove Ext.refl rfl rfl rfl rfl _ (.inl rfl) (by conv => lhs; whnf) (by simp only [List.set_cons_succ, List.set_cons_zero]; rfl) ?_
        refine relPure Ext.refl rfl rfl rfl rfl (c := .pointer (some ⟨bb, oo + j, none⟩)) (fun w _ => by go_simp; first | done | rfl) (by simp only [List.set_cons_succ, List.set_cons_zero]; rfl) ?_
        refine relPure Ext.refl rfl rfl rfl rfl (c := .slice (some ⟨g, 0, none⟩) 64 64) (fun w hw => by have := hc1.out _ (rd2.below (bw.trans (hw.drew.mono bw.size))); go_simp; first | done | rfl) (by simp only [List.set_cons_succ, List.set_cons_zero]; rfl) ?_
        refine relPure Ext.refl rfl rfl rfl rfl (c := .slice (some ⟨g, 0, none⟩) 32 64) (fun w _ => by go_simp; first | done | rfl) (by simp only [List.set_cons_succ, List.set_cons_zero]; rfl) ?_
        refine relStr rfl rfl rfl rfl _ rfl (by conv => lhs; whnf) tk tk32.out (fun w hw => rtk.out w (hw.drew)) (by simp only [List.set_cons_succ, List.set_cons_zero]; rfl) ?_
        refine relPure Ext.refl rfl rfl rfl rfl (c := .slice (some ⟨G9, 0, none⟩) 32 32) (fun w _ => by go_simp; first | done | rfl) (by simp only [List.set_cons_succ, List.set_cons_zero]; rfl) ?_
        refine relStr rfl rfl rfl rfl _ rfl (by conv => lhs; whnf) at0 at32.out (fun w hw => rat.out w (hw.drew)) (by simp only [List.set_cons_succ, List.set_cons_zero]; rfl) ?_
        refine relBin Ext.refl rfl rfl rfl rfl _ _ _ _ _ rfl (by conv => lhs; whnf) (by conv => lhs; whnf) (c := .bool false) (fun w => S1.out _ _ w) (by simp only [List.set_cons_succ, List.set_cons_zero]; rfl) ?_
        refine relMove Ext.refl rfl rfl rfl rfl _ (.inl rfl) (by conv => lhs; whnf) (by simp only [List.set_cons_succ, List.set_cons_zero]; rfl) ?_
        refine relSkip rfl rfl rfl rfl (by simp only [List.set_cons_succ, List.set_cons_zero]; rfl) ?_
        refine relSkip rfl rfl rfl rfl (by simp only [List.set_cons_succ, List.set_cons_zero]; rfl) ?_
        refine relSkip rfl rfl rfl rfl (by simp only [List.set_cons_succ, List.set_cons_zero]; rfl) ?_
        refine relSkip rfl rfl rfl rfl (by simp only [List.set_cons_succ, List.set_cons_zero]; rfl) ?_
        refine relSkip rfl rfl rfl rfl (by simp only [List.set_cons_succ, List.set_cons_zero]; rfl) ?_
        refine relSkip rfl rfl rfl rfl (by simp only [List.set_cons_succ, List.set_cons_zero]; rfl) ?_
        refine relSkip rfl rfl rfl rfl (by simp only [List.set_cons_succ, List.set_cons_zero]; rfl) ?_
        refine relSkip rfl rfl rfl rfl (by simp only [List.set_cons_succ, List.set_cons_zero]; rfl) ?_
        refine relSkip rfl rfl rfl rfl (by simp only [List.set_cons_succ, List.set_cons_zero]; rfl) ?_
        refine relPick Ext.refl rfl rfl rfl rfl _ _ _ rfl rfl (by conv => lhs; whnf) (by simp only [List.set_cons_succ, List.set_cons_zero]; rfl) ?_
        refine relPick Ext.refl rfl rfl rfl rfl _ _ _ rfl rfl (by conv => lhs; whnf) (by simp only [List.set_cons_succ, List.set_cons_zero]; rfl) ?_
        refine relEnd fun w5 hw5 => fill_end ?_
        have b5 := hw5.drew
        have bw5 := bw.trans (b5.mono bw.size)
        have a95 := a9.below b5
        have ag5 := agr.below b5
        have c5 := hc1.out _ (rd2.below bw5)
        have HD2 := HD.out w5 ag5.rd (hT.below (bw2.trans (bw5.mono bw2.size)))
        replace HD2 := Lib.hid HD2
        clear HD
        go_wp2_with (first
          | (go_at_call 26; refine (HD2.out).mono ?_; rintro e w6 ⟨rfl, b6⟩)
          | ((with_reducible refine wpList_storeFA 28 (Below.refl w2.heap.size w6) (a95.below b6) hG2 (at1.map bv) ?_ ?_ 32 at1v32.out ?_ ?_ ?_ ?_); rfl; rfl; kernel_rfl; exact atv32.out; exact at1one.out; intro w7 a97 b7 k7 z7))
        have bw7 := (bw5.trans (b6.mono bw5.size)).trans b7
        refine ⟨⟨j + 1, at1, by omega, by go_num, hat1, at1l.out, bw7, a97⟩, ?_⟩
        simp only [intOf]
        omega
      · go_upto_region 11 with fail
        refine wp_region_rel [] Ext (by kernel_rfl) (by kernel_rfl) (by kernel_rfl) Ext.refl Ext.trans (by intro p hp; cases hp) ?_
        refine relMove Ext.refl rfl rfl rfl rfl _ (.inl rfl) (by conv => lhs; whnf) (by simp only [List.set_cons_succ, List.set_cons_zero]; rfl) ?_
        refine relMove Ext.refl rfl rfl rfl rfl _ (.inl rfl) (by conv => lhs; whnf) (by simp only [List.set_cons_succ, List.set_cons_zero]; rfl) ?_
        refine relPure Ext.refl rfl rfl rfl rfl (c := .pointer (some ⟨bb, oo + j, none⟩)) (fun w _ => by go_simp; first | done | rfl) (by simp only [List.set_cons_succ, List.set_cons_zero]; rfl) ?_
        refine relPure Ext.refl rfl rfl rfl rfl (c := .slice (some ⟨g, 0, none⟩) 64 64) (fun w hw => by have := hc1.out _ (rd2.below (bw.trans (hw.drew.mono bw.size))); go_simp; first | done | rfl) (by simp only [List.set_cons_succ, List.set_cons_zero]; rfl) ?_
        refine relPure Ext.refl rfl rfl rfl rfl (c := .int .i64 64) (fun w _ => by go_simp; first | done | rfl) (by simp only [List.set_cons_succ, List.set_cons_zero]; rfl) ?_
        refine relPure Ext.refl rfl rfl rfl rfl (c := .bool false) (fun w _ => by go_simp; first | done | rfl) (by simp only [List.set_cons_succ, List.set_cons_zero]; rfl) ?_
        refine relMove Ext.refl rfl rfl rfl rfl _ (.inl rfl) (by conv => lhs; whnf) (by simp only [List.set_cons_succ, List.set_cons_zero]; rfl) ?_
        refine relMove Ext.refl rfl rfl rfl rfl _ (.inl rfl) (by conv => lhs; whnf) (by simp only [List.set_cons_succ, List.set_cons_zero]; rfl) ?_
        refine relMove Ext.refl rfl rfl rfl rfl _ (.inl rfl) (by conv => lhs; whnf) (by simp only [List.set_cons_succ, List.set_cons_zero]; rfl) ?_
        refine relPure Ext.refl rfl rfl rfl rfl (c := .pointer (some ⟨bb, oo + j, none⟩)) (fun w _ => by go_simp; first | done | rfl) (by simp only [List.set_cons_succ, List.set_cons_zero]; rfl) ?_
        refine relPure Ext.refl rfl rfl rfl rfl (c := .slice (some ⟨g, 0, none⟩) 64 64) (fun w hw => by have := hc1.out _ (rd2.below (bw.trans (hw.drew.mono bw.size))); go_simp; first | done | rfl) (by simp only [List.set_cons_succ, List.set_cons_zero]; rfl) ?_
        refine relPure Ext.refl rfl rfl rfl rfl (c := .slice (some ⟨g, 0, none⟩) 32 64) (fun w _ => by go_simp; first | done | rfl) (by simp only [List.set_cons_succ, List.set_cons_zero]; rfl) ?_
        refine relStr rfl rfl rfl rfl _ rfl (by conv => lhs; whnf) tk tk32.out (fun w hw => rtk.out w (hw.drew)) (by simp only [List.set_cons_succ, List.set_cons_zero]; rfl) ?_
        refine relPure Ext.refl rfl rfl rfl rfl (c := .slice (some ⟨G9, 0, none⟩) 32 32) (fun w _ => by go_simp; first | done | rfl) (by simp only [List.set_cons_succ, List.set_cons_zero]; rfl) ?_
        refine relStr rfl rfl rfl rfl _ rfl (by conv => lhs; whnf) at0 at32.out (fun w hw => rat.out w (hw.drew)) (by simp only [List.set_cons_succ, List.set_cons_zero]; rfl) ?_
        refine relBin Ext.refl rfl rfl rfl rfl _ _ _ _ _ rfl (by conv => lhs; whnf) (by conv => lhs; whnf) (c := .bool true) (fun w => S1.out _ _ w) (by simp only [List.set_cons_succ, List.set_cons_zero]; rfl) ?_
        refine relMove Ext.refl rfl rfl rfl rfl _ (.inl rfl) (by conv => lhs; whnf) (by simp only [List.set_cons_succ, List.set_cons_zero]; rfl) ?_
        refine relMove Ext.refl rfl rfl rfl rfl _ (.inl rfl) (by conv => lhs; whnf) (by simp only [List.set_cons_succ, List.set_cons_zero]; rfl) ?_
        refine relMove Ext.refl rfl rfl rfl rfl _ (.inl rfl) (by conv => lhs; whnf) (by simp only [List.set_cons_succ, List.set_cons_zero]; rfl) ?_
        refine relPure Ext.refl rfl rfl rfl rfl (c := .pointer (some ⟨bb, oo + j, none⟩)) (fun w _ => by go_simp; first | done | rfl) (by simp only [List.set_cons_succ, List.set_cons_zero]; rfl) ?_
        refine relPure Ext.refl rfl rfl rfl rfl (c := .slice (some ⟨g, 0, none⟩) 64 64) (fun w hw => by have := hc1.out _ (rd2.below (bw.trans (hw.drew.mono bw.size))); go_simp; first | done | rfl) (by simp only [List.set_cons_succ, List.set_cons_zero]; rfl) ?_
        refine relPure Ext.refl rfl rfl rfl rfl (c := .slice (some ⟨g, 32, none⟩) 32 32) (fun w _ => by go_simp; first | done | rfl) (by simp only [List.set_cons_succ, List.set_cons_zero]; rfl) ?_
        refine relStr rfl rfl rfl rfl _ rfl (by conv => lhs; whnf) td td32.out (fun w hw => rtd.out w (hw.drew)) (by simp only [List.set_cons_succ, List.set_cons_zero]; rfl) ?_
        refine relPure Ext.refl rfl rfl rfl rfl (c := .slice (some ⟨G9, 0, none⟩) 32 32) (fun w _ => by go_simp; first | done | rfl) (by simp only [List.set_cons_succ, List.set_cons_zero]; rfl) ?_
        refine relStr rfl rfl rfl rfl _ rfl (by conv => lhs; whnf) at0 at32.out (fun w hw => rat.out w (hw.drew)) (by simp only [List.set_cons_succ, List.set_cons_zero]; rfl) ?_
        refine relBin Ext.refl rfl rfl rfl rfl _ _ _ _ _ rfl (by conv => lhs; whnf) (by conv => lhs; whnf) (c := .bool false) (fun w => S2.out _ _ w) (by simp only [List.set_cons_succ, List.set_cons_zero]; rfl) ?_
        refine relPick Ext.refl rfl rfl rfl rfl _ _ _ rfl rfl (by conv => lhs; whnf) (by simp only [List.set_cons_succ, List.set_cons_zero]; rfl) ?_
        refine relPick Ext.refl rfl rfl rfl rfl _ _ _ rfl rfl (by conv => lhs; whnf) (by simp only [List.set_cons_succ, List.set_cons_zero]; rfl) ?_
        refine relEnd fun w5 hw5 => fill_end ?_
        have b5 := hw5.drew
        have bw5 := bw.trans (b5.mono bw.size)
        have a95 := a9.below b5
        have ag5 := agr.below b5
        have c5 := hc1.out _ (rd2.below bw5)
        have HD2 := HD.out w5 ag5.rd (hT.below (bw2.trans (bw5.mono bw2.size)))
        replace HD2 := Lib.hid HD2
        clear HD
        go_wp2_with (first
          | (go_at_call 26; refine (HD2.out).mono ?_; rintro e w6 ⟨rfl, b6⟩)
          | ((with_reducible refine wpList_storeFA 28 (Below.refl w2.heap.size w6) (a95.below b6) hG2 (at1.map bv) ?_ ?_ 32 at1v32.out ?_ ?_ ?_ ?_); rfl; rfl; kernel_rfl; exact atv32.out; exact at1one.out; intro w7 a97 b7 k7 z7))
        have bw7 := (bw5.trans (b6.mono bw5.size)).trans b7
        refine ⟨⟨j + 1, at1, by omega, by go_num, hat1, at1l.out, bw7, a97⟩, ?_⟩
        simp only [intOf]
        omega
    · obtain rfl : j = n := by omega
      have u1 : decide ((j : Int) < (j : Int)) = false := by simp
      have bw4 := bw2.trans (bw.mono bw2.size)
      have aX4 := aX2.below bw
      have HC2 := HC.out
      rw [← hat.out] at HC2
      replace HC2 := Lib.hid HC2
      have atv32 : (at0.map bv).length = 32 := by rw [List.length_map, hal.out]
      have EQ := fun p q w => eqlHw at0 at0 hal.out hal.out p q w
      rw [show (at0 == at0) = true by simp] at EQ
      replace EQ := Lib.hid EQ
      replace atv32 := Lib.hid atv32
      go_upto_region 14 with fail
      refine wp_region_rel [] Ext (by kernel_rfl) (by kernel_rfl) (by kernel_rfl) Ext.refl Ext.trans (by intro p hp; cases hp) ?_
      refine relMove Ext.refl rfl rfl rfl rfl _ (.inl rfl) (by conv => lhs; whnf) (by simp only [List.set_cons_succ, List.set_cons_zero]; rfl) ?_
      refine relMove Ext.refl rfl rfl rfl rfl _ (.inl rfl) (by conv => lhs; whnf) (by simp only [List.set_cons_succ, List.set_cons_zero]; rfl) ?_
      refine relPure Ext.refl rfl rfl rfl rfl (c := .agg (hcs at0)) (fun w hw => exec_loadAv (a9.below hw.drew) _ _ rfl rfl _ 32 atv32.out Tryd.underlying28 rfl (by kernel_rfl)) (by simp only [List.set_cons_succ, List.set_cons_zero]; rfl) ?_
      refine relPure Ext.refl rfl rfl rfl rfl (c := .agg (hcs x)) (fun w hw => exec_loadAv (aX4.below hw.drew) _ _ rfl rfl _ 32 xv32.out Tryd.underlying28 rfl (by kernel_rfl)) (by simp only [List.set_cons_succ, List.set_cons_zero]; rfl) ?_
      refine relMove Ext.refl rfl rfl rfl rfl _ (.inl rfl) (by conv => lhs; whnf) (by simp only [List.set_cons_succ, List.set_cons_zero]; rfl) ?_
      refine relMove Ext.refl rfl rfl rfl rfl _ (.inl rfl) (by conv => lhs; whnf) (by simp only [List.set_cons_succ, List.set_cons_zero]; rfl) ?_
      refine relCall1 rfl rfl rfl rfl (c := .agg (hcs at0)) 25 #[.agg (hcs x), .slice A j c, .int .i64 ki] (fun w => by go_simp) (fun w hw => (HC2.out w (hr.below (bw4.trans (hw.drew.mono bw4.size))) (hT.below (bw4.trans (hw.drew.mono bw4.size)))).mono ?_) (by simp only [List.set_cons_succ, List.set_cons_zero]; rfl) ?_
      · rintro e w' ⟨rfl, b⟩
        exact ⟨rfl, b⟩
      refine relBin Ext.refl rfl rfl rfl rfl _ _ _ _ _ rfl (by conv => lhs; whnf) (by conv => lhs; whnf) (c := .bool true) (fun w => EQ.out _ _ w) (by simp only [List.set_cons_succ, List.set_cons_zero]; rfl) ?_
      refine relPick Ext.refl rfl rfl rfl rfl _ _ _ rfl rfl (by conv => lhs; whnf) (by simp only [List.set_cons_succ, List.set_cons_zero]; rfl) ?_
      refine relMove Ext.refl rfl rfl rfl rfl _ (.inr rfl) (by conv => lhs; whnf) (by simp only [List.set_cons_succ, List.set_cons_zero]; rfl) ?_
      refine relEnd fun w9 hw9 => fill_end ?_
      have bw9 := bw4.trans (hw9.drew.mono bw4.size)
      go_wp2
      go_ret
      exact ⟨rfl, bw9⟩
theorem law_ProofSteps (x : List UInt8) (hx32 : x.length = 32) (p : List (List UInt8)) (h32 : All32 p) (A : Option Addr) (n c : Nat) (hn : p.length = n) (ki : Int) (hki : ki < 9223372036854775808) (w : World) (hr : Rd w A (hcl p)) (hT : Tabs w) : Calls Tryd.prog 7 #[.agg (hcs x), .slice A n c, .int .i64 ki] w fun e w' => e = .returned (.bool true) ∧ Below w.heap.size w w' := by
  by_cases h : 30 < n
  · exact pstp_0 x A n c ki h w hT
  · exact pstp_1 x hx32 p h32 A n c hn ki (max ki 0).toNat (by omega) (by omega) (by omega) w hr hT
end Go.Proofs.YtdkknincamkhpaaDoor
