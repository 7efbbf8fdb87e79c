/- The law HeaderMines: the walk. -/
import Derived.Test.YtjgdmpbaikhflaaDoorAw7
import Derived.Test.YtjgdmpbaikhflaaDoorHdQ
import Derived.Laws.BitsLemmas
namespace Go.Proofs.YtjgdmpbaikhflaaDoor
open Go.RowKit
theorem and_31 (n : Int) : ∃ N : Nat, N ≤ 31 ∧ bits .and .i64 n 31 = (N : Int) := by
  have h127 : (BitVec.ofInt 64 31).toNat = 2 ^ 5 - 1 := by decide
  have key : (BitVec.ofInt 64 n &&& BitVec.ofInt 64 31).toNat = (n % ((2 ^ 64 : Nat) : Int)).toNat % 2 ^ 5 := by
    rw [BitVec.toNat_and, BitVec.toNat_ofInt, h127, Nat.and_two_pow_sub_one_eq_mod]
  refine ⟨(n % ((2 ^ 64 : Nat) : Int)).toNat % 2 ^ 5, by omega, ?_⟩
  show IntKind.i64.wrap ((BitVec.ofInt 64 n &&& BitVec.ofInt 64 31).toNat : Nat) = _
  rw [key, IntKind.wrap_i64]
  omega
set_option maxRecDepth 10000 in
set_option maxHeartbeats 8000000 in
theorem law_HeaderMines (h0 : Hd) (k : h0.ok) (l : Nat) (hl : l < 4294967296) (tries : Int) (w : World) (ht : Tabs w) : Calls Tryd.prog 3 #[.agg (hdc h0).toArray, .int .u32 (l : Int), .int .i64 tries] w fun e w' => e = .returned (.bool true) ∧ Below w.heap.size w w' := by
  obtain ⟨N, hN, hq⟩ := and_31 tries
  have HM := fun w' t => HdMine h0 k l hl (N : Int) N (by omega) w' t
  have HI := fun (x : Hd) (hx : x.ok) (w' : World) (t : Tabs w') => HdId x hx w' t
  have HMM := fun (x : Hd) (hx : x.ok) (w' : World) => Meets (hdId x) (hdId_length x) h0.bits l k.2.2.2.2.1 hl w'
  have hz := zeros_68
  obtain ⟨zs, hzs⟩ : ∃ zs : List Value, zs = hdc ⟨0, List.replicate 32 0, List.replicate 32 0, 0, 0, 0⟩ := ⟨_, rfl⟩
  have hzl : zs.length = 68 := by rw [hzs]; rfl
  rw [← hzs] at hz
  clear hzs
  obtain ⟨W, hW⟩ : ∃ W, W = w.alloc (.cells (hdc h0).toArray 26) := ⟨_, rfl⟩
  obtain ⟨H, hH⟩ : ∃ H, H = w.heap.size := ⟨_, rfl⟩
  have bW : Below w.heap.size w W := by rw [hW]; exact (Below.refl _ _).alloc (Nat.le_refl _) _
  have aW : Av W H 26 (hdc h0) := by rw [hW, hH]; exact heap_alloc_new _ _
  have HA := Lib.hid (awake7 W (ht.below bW))
  have h68 := Lib.hid (hdc_length k)
  have one := Lib.hid (List.all_eq_true.2 (hdc_one h0))
  have y66 := (hdc_at k).2.2.1
  have mok := mMine_ok k l N
  obtain ⟨m, hm⟩ : ∃ m, m = mMine h0 l N := ⟨_, rfl⟩
  rw [← hm] at HM mok
  have m68 := Lib.hid (hdc_length mok)
  have onem := Lib.hid (List.all_eq_true.2 (hdc_one m.1))
  replace hm := Lib.hid hm
  replace hW := Lib.hid hW
  replace hH := Lib.hid hH
  replace hzl := Lib.hid hzl
  replace HI := Lib.hid HI
  replace HM := Lib.hid HM
  replace HMM := Lib.hid HMM
  go_enter Tryd.func3, Tryd.ntmps3
  go_upto_region 1 with fail
  rw [← hW.out, ← hH.out]
  go_upto_region 2 with (go_at_call 9; refine (HA.out).mono ?_; rintro e w1 ⟨rfl, b1⟩)
  have bw1 := bW.trans (b1.mono bW.size)
  have a1 := aW.below b1
  go_upto_region 4 with (first
    | ((with_reducible refine wpList_loadF 26 a1 ?_ _ 68 h68.out Tryd.underlying26 ?_ ?_ ?_); rfl; rfl; kernel_rfl)
    | (go_at_call 10; refine (HM.out w1 (ht.below bw1)).mono ?_; rintro e w2 ⟨rfl, b2⟩; have bw2 := bw1.trans (b2.mono bw1.size); have a2 := a1.below b2)
    | ((with_reducible refine wpList_storeF 26 ((Below.refl w2.heap.size w2).alloc (Nat.le_refl _) _) (heap_alloc_new _ _) (Nat.le_refl _) (hdc m.1) ?_ ?_ 68 m68.out ?_ ?_ ?_ ?_); rfl; rfl; kernel_rfl; (rw [List.size_toArray]; exact hzl.out); exact onem.out; intro w3 g3 b3 k3 z3; clear k3; replace z3 := Lib.hid z3))
  obtain ⟨G, hG⟩ : ∃ G, G = w2.heap.size := ⟨_, rfl⟩
  rw [← hG] at g3 ⊢
  have hHG : H < G := by rw [hG]; exact a2.lt
  replace hG := Lib.hid hG
  have bw3 := bw2.trans (b3.mono bw2.size)
  have a3 := a2.below b3
  go_upto_region 5 with (first
    | ((with_reducible refine wpList_loadF 26 a3 ?_ _ 68 h68.out Tryd.underlying26 ?_ ?_ ?_); rfl; rfl; kernel_rfl)
    | ((with_reducible refine wpList_storeF 26 ((Below.refl w3.heap.size w3).alloc (Nat.le_refl _) _) (heap_alloc_new _ _) (Nat.le_refl _) (hdc h0) ?_ ?_ 68 h68.out ?_ ?_ ?_ ?_); rfl; rfl; kernel_rfl; (rw [List.size_toArray]; exact hzl.out); exact one.out; intro w4 x4 b4 k4 z4; clear k4; replace z4 := Lib.hid z4))
  obtain ⟨J, hJ⟩ : ∃ J, J = w3.heap.size := ⟨_, rfl⟩
  rw [← hJ] at x4 ⊢
  have hGJ : G < J := by rw [hJ]; exact g3.lt
  have hwJ : w.heap.size ≤ J := by rw [hJ]; exact bw3.size
  replace hJ := Lib.hid hJ
  have bw4 := bw3.trans (b4.mono bw3.size)
  have a4 := a3.below b4
  have g4 := g3.below b4
  go_wp2
  go_loopw [12, 13] (fun fv i wr => ∃ (j : Nat) (f : Bool), j ≤ N ∧ (f = true → j < N) ∧ fv = .bool f ∧ i = .int .i64 (j + (if f then 1 else 0) : Int) ∧ Hid (∀ q, q < j → mTry h0 l q = false) ∧ Hid (f = true → mTry h0 l j = true) ∧ Below w.heap.size w wr ∧ Av wr H 26 (hdc h0) ∧ Av wr G 26 (hdc m.1) ∧ Av wr J 26 (hdc (h0.nth j))) (fun _ i _ => N + 1 - (intOf i).toNat)
  case atStart => exact ⟨0, false, by omega, (fun e => by cases e), rfl, rfl, Lib.hid (fun q hq => by omega), Lib.hid (fun e => by cases e), bw4, a4, g4, by rw [Hd.nth_zero k]; exact x4⟩
  case round =>
    clear a1 a2 a3 a4 g3 g4 x4 aW
    obtain ⟨j, f, hj, hjf, rfl, rfl, hf, hft, bw, aH, aG, aJ⟩ := hrel
    cases f
    · by_cases hlt : j < N
      · have t1 : decide ((j : Int) < (N : Int)) = true := by simp; omega
        obtain ⟨x, hx⟩ : ∃ x, x = h0.nth j := ⟨_, rfl⟩
        have xok : x.ok := by rw [hx]; exact h0.nth_ok k j
        have x68 := hdc_length xok
        obtain ⟨_, _, _, x67⟩ := hdc_at xok
        have HI2 := HI.out x xok
        have HE := HMM.out x xok
        have hmt : mTry h0 l j = (mMeets (hdId x) h0.bits l == 0) := by rw [mTry, ← hx]
        rw [← hx] at aJ
        have hnx := hdc_next k j
        rw [← hx] at hnx
        obtain ⟨mm, hmm⟩ : ∃ m, m = mMeets (hdId x) h0.bits l := ⟨_, rfl⟩
        rw [← hmm] at HE hmt
        obtain ⟨hb, hhb⟩ : ∃ b, b = h0.bits := ⟨_, rfl⟩
        rw [← hhb] at y66 HE
        have hno : ∃ no : Nat, no = x.nonce ∧ no < 4294967296 ∧ no = (h0.nonce + j) % 4294967296 := ⟨_, rfl, xok.2.2.2.2.2, by rw [hx]; rfl⟩
        obtain ⟨no, hno, hno2, hno3⟩ := hno
        rw [← hno] at x67
        rw [← hno3, show (((no + 1) % 4294967296 : Nat) : Int) = ((no : Int) + 1) % 4294967296 by omega] at hnx
        replace hx := Lib.hid hx
        replace hmm := Lib.hid hmm
        replace hno := Lib.hid hno
        replace hno3 := Lib.hid hno3
        replace hhb := Lib.hid hhb
        replace hnx := Lib.hid hnx
        replace HI2 := Lib.hid HI2
        replace HE := Lib.hid HE
        go_upto_region 9 with fail
        by_cases hm0 : mm = 0
        · go_wp2_with fail
          refine wp_region_relT 7 [] Ext (by kernel_rfl) (by kernel_rfl) (by kernel_rfl) (by kernel_rfl) (by kernel_rfl) Ext.refl Ext.trans (by intro p hp; cases hp) ?_
          refine relPure Ext.refl rfl rfl rfl rfl (c := .agg (hdc x).toArray) (fun w hw => exec_loadAv (aJ.below hw.drew) _ _ rfl rfl _ 68 x68 Tryd.underlying26 rfl (by kernel_rfl)) (by simp only [List.set_cons_succ, List.set_cons_zero]; rfl) ?_
          refine relCall1 rfl rfl rfl rfl (c := .agg (hcs (hdId x))) 12 #[.agg (hdc x).toArray] (fun w => by go_simp) (fun w hw => (HI2.out w (ht.below (bw.trans (hw.drew.mono bw.size)))).mono ?_) (by simp only [List.set_cons_succ, List.set_cons_zero]; rfl) ?_
          · rintro e w' ⟨rfl, hb⟩
            exact ⟨rfl, hb⟩
          refine relPure Ext.refl rfl rfl rfl rfl (fun w _ => by go_simp; first | done | rfl) (by simp only [List.set_cons_succ, List.set_cons_zero]; rfl) ?_
          refine relPure Ext.refl rfl rfl rfl rfl (c := .int .u32 (hb : Int)) (fun w hw => by have := (aH.below hw.drew).cell 66 _ y66; go_simp; first | done | rfl) (by simp only [List.set_cons_succ, List.set_cons_zero]; rfl) ?_
          refine relMove Ext.refl rfl rfl rfl rfl _ (.inl rfl) (by conv => lhs; whnf) (by simp only [List.set_cons_succ, List.set_cons_zero]; rfl) ?_
          refine relCall1 rfl rfl rfl rfl (c := .int .i64 (mm : Int)) 11 #[.agg (hcs (hdId x)), .int .u32 (hb : Int), .int .u32 (l : Int)] (fun w => by go_simp) (fun w hw => (HE.out w).mono ?_) (by simp only [List.set_cons_succ, List.set_cons_zero]; rfl) ?_
          · rintro e w' ⟨rfl, hb⟩
            exact ⟨rfl, hb⟩
          refine relPure Ext.refl rfl rfl rfl rfl (c := .bool true) (fun w _ => by go_simp; first | done | rfl | omega) (by simp only [List.set_cons_succ, List.set_cons_zero]; rfl) ?_
          refine relEnd fun w5 hw5 => fill_end ?_
          simp only [List.drop_succ_cons, List.drop_zero]
          have b5 := bw.trans (hw5.drew.mono bw.size)
          have h5 := aH.below hw5.drew
          have g5 := aG.below hw5.drew
          have x5 := aJ.below hw5.drew
          have hft2 := hmt
          rw [hm0] at hft2
          replace hft2 := Lib.hid hft2
          go_wp2
          refine ⟨⟨j, true, hj, (fun _ => hlt), rfl, by simp, hf, Lib.hid (fun _ => hft2.out), b5, h5, g5, by rw [← hx.out]; exact x5⟩, ?_⟩
          simp [intOf]
          omega
        · have t3 : ((mm : Int) == 0) = false := by simp; omega
          go_wp2_with fail
          refine wp_region_relT 7 [] Ext (by kernel_rfl) (by kernel_rfl) (by kernel_rfl) (by kernel_rfl) (by kernel_rfl) Ext.refl Ext.trans (by intro p hp; cases hp) ?_
          refine relPure Ext.refl rfl rfl rfl rfl (c := .agg (hdc x).toArray) (fun w hw => exec_loadAv (aJ.below hw.drew) _ _ rfl rfl _ 68 x68 Tryd.underlying26 rfl (by kernel_rfl)) (by simp only [List.set_cons_succ, List.set_cons_zero]; rfl) ?_
          refine relCall1 rfl rfl rfl rfl (c := .agg (hcs (hdId x))) 12 #[.agg (hdc x).toArray] (fun w => by go_simp) (fun w hw => (HI2.out w (ht.below (bw.trans (hw.drew.mono bw.size)))).mono ?_) (by simp only [List.set_cons_succ, List.set_cons_zero]; rfl) ?_
          · rintro e w' ⟨rfl, hb⟩
            exact ⟨rfl, hb⟩
          refine relPure Ext.refl rfl rfl rfl rfl (fun w _ => by go_simp; first | done | rfl) (by simp only [List.set_cons_succ, List.set_cons_zero]; rfl) ?_
          refine relPure Ext.refl rfl rfl rfl rfl (c := .int .u32 (hb : Int)) (fun w hw => by have := (aH.below hw.drew).cell 66 _ y66; go_simp; first | done | rfl) (by simp only [List.set_cons_succ, List.set_cons_zero]; rfl) ?_
          refine relMove Ext.refl rfl rfl rfl rfl _ (.inl rfl) (by conv => lhs; whnf) (by simp only [List.set_cons_succ, List.set_cons_zero]; rfl) ?_
          refine relCall1 rfl rfl rfl rfl (c := .int .i64 (mm : Int)) 11 #[.agg (hcs (hdId x)), .int .u32 (hb : Int), .int .u32 (l : Int)] (fun w => by go_simp) (fun w hw => (HE.out w).mono ?_) (by simp only [List.set_cons_succ, List.set_cons_zero]; rfl) ?_
          · rintro e w' ⟨rfl, hb⟩
            exact ⟨rfl, hb⟩
          refine relPure Ext.refl rfl rfl rfl rfl (c := .bool false) (fun w _ => by go_simp; first | done | rfl | omega) (by simp only [List.set_cons_succ, List.set_cons_zero]; rfl) ?_
          refine relEnd fun w5 hw5 => fill_end ?_
          simp only [List.drop_succ_cons, List.drop_zero]
          have b5 := bw.trans (hw5.drew.mono bw.size)
          have h5 := aH.below hw5.drew
          have g5 := aG.below hw5.drew
          have x5 := aJ.below hw5.drew
          have z67 := x5.cell 67 _ x67
          have hl67 : 67 < (hdc x).length := by rw [x68]; omega
          go_upto_region 8 with ((with_reducible refine wpList_storeI 22 x5 hl67 .u32 (((no : Int) + 1) % 4294967296) ?_ ?_ size_u32' ?_); rfl; rfl; intro w6 x6 f6)
          rw [hnx.out] at x6
          have h6 := f6.av h5 (by omega)
          have g6 := f6.av g5 (by omega)
          have b6 := b5.trans (f6.below (B := w.heap.size) (fun k hk => by omega) b5.size)
          have hf2 : ∀ q, q < j + 1 → mTry h0 l q = false := fun q hq => by
            by_cases e : q = j
            · rw [e, hmt]; simpa using hm0
            · exact hf.out q (by omega)
          replace hf2 := Lib.hid hf2
          go_wp2
          refine ⟨⟨j + 1, false, by omega, (fun e => by cases e), rfl, by simp, hf2, Lib.hid (fun e => by cases e), b6, h6, g6, x6⟩, ?_⟩
          simp [intOf]
          omega
      · obtain rfl : j = N := by omega
        have t1 : decide ((j : Int) < (j : Int)) = false := by simp
        have em : m = (h0, false) := by rw [hm.out, mMine, find_none hf.out]
        rw [em] at aG
        rw [em]
        have Q := Lib.hid (fun p q w => eqlHdg k k p q w)
        rw [show decide (h0 = h0) = true from decide_eq_true rfl] at Q
        dsimp only at aG
        go_wp2_with (first
          | ((with_reducible refine wpList_loadG 26 aG ?_ ?_ _ 68 h68.out Tryd.underlying26 ?_ ?_ ?_); rfl; rfl; rfl; kernel_rfl)
          | ((with_reducible refine wpList_loadG 26 aH ?_ ?_ _ 68 h68.out Tryd.underlying26 ?_ ?_ ?_); rfl; rfl; rfl; kernel_rfl)
          | ((with_reducible refine wpList_binG (op := .eql) (ty := 26) ?_ ?_ ?_ (Q.out _ _ wr) ?_); rfl; rfl; rfl))
        go_ret
        exact ⟨rfl, bw⟩
    · have hlt := hjf rfl
      have em : m = (h0.nth j, true) := by rw [hm.out, mMine, find_range hlt (hft.out rfl) hf.out]
      rw [em] at aG
      rw [em]
      have n68 := Lib.hid (hdc_length (h0.nth_ok k j))
      have Q := Lib.hid (fun p q w => eqlHdg (h0.nth_ok k j) (h0.nth_ok k j) p q w)
      rw [show decide (h0.nth j = h0.nth j) = true from decide_eq_true rfl] at Q
      dsimp only at aG
      generalize h0.nth j = x at *
      by_cases h2 : j + 1 < N
      · have t1 : decide ((j : Int) + 1 < (N : Int)) = true := by simp; omega
        go_wp2_with (first
          | ((with_reducible refine wpList_loadG 26 aG ?_ ?_ _ 68 n68.out Tryd.underlying26 ?_ ?_ ?_); rfl; rfl; rfl; kernel_rfl)
          | ((with_reducible refine wpList_loadG 26 aJ ?_ ?_ _ 68 n68.out Tryd.underlying26 ?_ ?_ ?_); rfl; rfl; rfl; kernel_rfl)
          | ((with_reducible refine wpList_binG (op := .eql) (ty := 26) ?_ ?_ ?_ (Q.out _ _ wr) ?_); rfl; rfl; rfl))
        go_ret
        exact ⟨rfl, bw⟩
      · have t1 : decide ((j : Int) + 1 < (N : Int)) = false := by simp; omega
        go_wp2_with (first
          | ((with_reducible refine wpList_loadG 26 aG ?_ ?_ _ 68 n68.out Tryd.underlying26 ?_ ?_ ?_); rfl; rfl; rfl; kernel_rfl)
          | ((with_reducible refine wpList_loadG 26 aJ ?_ ?_ _ 68 n68.out Tryd.underlying26 ?_ ?_ ?_); rfl; rfl; rfl; kernel_rfl)
          | ((with_reducible refine wpList_binG (op := .eql) (ty := 26) ?_ ?_ ?_ (Q.out _ _ wr) ?_); rfl; rfl; rfl))
        go_ret
        exact ⟨rfl, bw⟩
end Go.Proofs.YtjgdmpbaikhflaaDoor
