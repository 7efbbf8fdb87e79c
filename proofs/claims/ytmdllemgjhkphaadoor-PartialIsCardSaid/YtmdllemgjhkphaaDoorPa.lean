/- florinlaw11.awake. -/
import Derived.Test.YtmdllemgjhkphaaDoorPw
import Derived.Test.YtmdllemgjhkphaaDoorPr21
namespace Go.Proofs.YtmdllemgjhkphaaDoor
open Go.RowKit
attribute [local go_sem high] slB_lh slB_l slB_h
def a7 : List UInt8 := 7 :: List.replicate 31 0
theorem aw11_facts : pBhs [a7] [true] = [a7] ∧ pBfl 1 [true] = [1] ∧ pExt 1 [a7] [1] = some ⟨a7, [(0, a7)], 1, 1⟩ := by
  have h1 : pBhs [a7] [true] = [a7] := pBhs_whole [a7] [true] 1 rfl (by omega) (by omega) (fun k hk => by
    have : k = 0 := by omega
    subst this
    rfl)
  have h2 : pBfl 1 [true] = [1] := by decide +kernel
  refine ⟨h1, h2, ?_⟩
  have h3 := pExt_built [a7] [true] 1 rfl (by omega) (by omega)
  rw [h1, h2] at h3
  rw [h3, if_pos (show pOk 1 [true] (mLv [a7]) (pHt 1) 0 = true by decide +kernel), show mRootOf (mLv [a7]) = a7 by decide +kernel, show mts 1 [true] [a7] = [(0, a7)] by decide +kernel, show (pAll 1 [true]).length = 1 by decide +kernel]
  rfl
set_option maxRecDepth 100000 in
set_option maxHeartbeats 8000000 in
theorem awake11 (w : World) (hT : Tabs w) : Calls Tryd.prog 9 #[] w fun e w' => e = .returned (.bool true) ∧ Below w.heap.size w w' := by
  obtain ⟨f1, f2, f3⟩ := aw11_facts
  have ha7 : a7.length = 32 := rfl
  have HB := fun A Am c cm w' r r2 t => PBuild [a7] (All32.one ha7) [true] A Am 1 c 1 cm rfl rfl (by omega) (by omega) w' r r2 t
  have HE := fun Ah ch Af cf w' r r2 t => PExt [1] [a7] (All32.one ha7) 1 Ah 1 ch Af 1 cf rfl rfl (by omega) (by omega) (by omega) w' r r2 t
  unfold BdPost at HB
  rw [f1] at HB
  simp only [List.length_singleton, f2] at HB
  simp only [show ¬ (1 = 0 ∨ 4096 < 1) by omega, if_false] at HB
  unfold ExtPost at HE
  rw [f3] at HE
  dsimp only at HE
  rw [show hcl [a7] = a7.map bv from hcl_one a7] at HB HE
  obtain ⟨a, ha⟩ : ∃ a, a = a7 := ⟨_, rfl⟩
  have a32 : a.length = 32 := by rw [ha]; rfl
  have ha32 : (a.map bv).length = 32 := by rw [List.length_map, a32]
  have haone : (a.map bv).all (·.oneCell') = true := List.all_eq_true.2 (bv_one a)
  have hbd : ∀ (v : Act) (w' : World) d tp pos af, (execOp v.eval ⟨d, .build 28 #[(0, .const (.int .u8 7))], tp, pos, af, none⟩).run Tryd.prog w' = .ok (.value (.agg (a.map bv).toArray)) w' := fun v w' d tp pos af => by rw [ha]; kernel_rfl
  rw [← ha] at HB HE
  have EQ := fun p q w => eqlHw a a a32 a32 p q w
  rw [show (a == a) = true by simp] at EQ
  have hml : mlc [(0, a)] = [Value.int .i64 0] ++ a.map bv := by simp [mlc, mtc]
  rw [hml] at HE
  clear f1 f2 f3 ha7 hml
  replace ha := Lib.hid ha
  replace a32 := Lib.hid a32
  replace ha32 := Lib.hid ha32
  replace haone := Lib.hid haone
  replace hbd := Lib.hid hbd
  replace HB := Lib.hid HB
  replace HE := Lib.hid HE
  replace EQ := Lib.hid EQ
  go_enter Tryd.func9, Tryd.ntmps9
  go_upto_region 2 with (first
    | ((with_reducible refine wpList_bld (.agg (a.map bv).toArray) ?_ ?_); exact hbd.out _ _ _ _ _ _)
    | ((with_reducible refine wpList_storeF 28 ((Below.refl w.heap.size w).alloc (Nat.le_refl _) _) (heap_alloc_new _ _) (Nat.le_refl _) (a.map bv) ?_ ?_ 32 ha32.out ?_ ?_ ?_ ?_); rfl; rfl; kernel_rfl; rfl; exact haone.out; intro w1 a1 b1 k1 z1; clear k1 z1))
  obtain ⟨X, hX⟩ : ∃ X, X = w.heap.size := ⟨_, rfl⟩
  rw [← hX] at a1 ⊢
  obtain ⟨w3, hw3⟩ : ∃ w3, w3 = (w1.alloc (Obj.cells (a.map bv).toArray 28)).alloc (Obj.cells #[Value.bool true] 4) := ⟨_, rfl⟩
  have b13 : Below w1.heap.size w1 w3 := by rw [hw3]; exact ((Below.refl _ _).alloc (Nat.le_refl _) _).alloc (by simp) _
  have rA : Rd w3 (some ⟨w1.heap.size, 0, none⟩) (a.map bv) := by rw [hw3]; exact (Av.newer w1 (a.map bv) _ _).rd
  have rM : Rd w3 (some ⟨w1.heap.size + 1, 0, none⟩) ([true].map Value.bool) := by
    rw [hw3, ← World.size_alloc w1 (Obj.cells (a.map bv).toArray 28)]
    exact (Av.new _ [Value.bool true] _).rd
  have bw3 := b1.trans (b13.mono b1.size)
  have a3 := a1.below b13
  have HB2 := HB.out (some ⟨w1.heap.size, 0, none⟩) (some ⟨w1.heap.size + 1, 0, none⟩) 1 1 w3 rA rM (hT.below bw3)
  replace HB2 := Lib.hid HB2
  replace hX := Lib.hid hX
  replace hw3 := Lib.hid hw3
  clear b1 b13 rA rM HB
  go_upto_region 3 with (first
    | ((with_reducible refine wpList_loadF 28 a1 ?_ _ 32 ha32.out Tryd.underlying28 ?_ ?_ ?_); rfl; rfl; kernel_rfl)
    | ((with_reducible refine wpList_build1 (e := 28) Tryd.underlying23 infoHs32 zeroHs32 ?_ ?_ (a.map bv) ha32.out ?_ ?_); decide; decide; rfl)
    | (go_at_call 13; rw [← hw3.out]; refine (HB2.out).mono ?_; rintro e w4 ⟨b4, Ah, ch, Af, cf, rfl, hch, hcf, rh4, rf4, gh, gf⟩)
    | ((with_reducible refine wpList_storeF 34 ((Below.refl w4.heap.size w4).alloc (Nat.le_refl _) _) (heap_alloc_new _ _) (Nat.le_refl _) (trc 1 Ah 1 ch Af 1 cf) ?_ ?_ 3 rfl ?_ ?_ ?_ ?_); rfl; rfl; kernel_rfl; rfl; rfl; intro w5 aT b5 k5 z5; clear k5; replace z5 := Lib.hid z5))
  obtain ⟨T, hT0⟩ : ∃ T, T = w4.heap.size := ⟨_, rfl⟩
  rw [← hT0] at aT ⊢
  replace hT0 := Lib.hid hT0
  have b45 := b4.trans (b5.mono b4.size)
  have bw5 := bw3.trans (b45.mono bw3.size)
  have rh5 := rh4.below b5
  have rf5 := rf4.below b5
  have a5 := a3.below b45
  have HE2 := HE.out Ah ch Af cf w5 rh5 (by exact rf5) (hT.below bw5)
  have cf0 : ∀ v, Rd v Af [Value.int .u8 1] → ∃ bb off, Af = some ⟨bb, off, none⟩ ∧ v.cell? ⟨bb, off, none⟩ = some (.int .u8 1) := fun v h => by
    obtain ⟨bb, off, e⟩ := h.someA (by simp)
    refine ⟨bb, off, e, ?_⟩
    rcases h with h | ⟨b', o', hA', hc⟩
    · cases h
    · rw [hA'] at e; cases e; exact hc 0 _ rfl
  replace HE2 := Lib.hid HE2
  replace HE := Lib.hid HE
  have rf5' : Rd w5 Af [Value.int .u8 1] := rf5
  obtain ⟨bf, of, rfl, _⟩ := cf0 _ rf5'
  clear b4 b45 rh4 rf4 a3 bw3 HB2 cf0
  go_upto_region 4 with (first
    | ((with_reducible refine wpList_loadF 34 aT ?_ _ 3 ?_ Tryd.underlying34 ?_ ?_ ?_); rfl; rfl; rfl; kernel_rfl)
    | (go_at_call 10; refine (HE2.out).mono ?_; rintro e w6 ⟨b6, Am, cm, rfl, hcm, gm, rm6⟩; dsimp only [List.length_singleton] at hcm ⊢)
    | ((with_reducible refine wpList_storeF 28 ((Below.refl w6.heap.size w6).alloc (Nat.le_refl _) _) (heap_alloc_new _ _) (Nat.le_refl _) (a.map bv) ?_ ?_ 32 ha32.out ?_ ?_ ?_ ?_); rfl; rfl; kernel_rfl; rfl; exact haone.out; intro w7 aR b7 k7 z7; clear k7; replace z7 := Lib.hid z7))
  obtain ⟨R, hR0⟩ : ∃ R, R = w6.heap.size := ⟨_, rfl⟩
  rw [← hR0] at aR ⊢
  replace hR0 := Lib.hid hR0
  have b67 := b6.trans (b7.mono b6.size)
  have bw7 := bw5.trans (b67.mono bw5.size)
  have aT7 := aT.below b67
  have aX7 := a5.below b67
  have rf7 := rf5'.below b67
  have rm7 := rm6.below b7
  obtain ⟨bm, om, rfl⟩ := rm7.someA (by simp)
  have cm0 : ∀ v, Rd v (some ⟨bm, om, none⟩) ([Value.int .i64 0] ++ a.map bv) → v.rangeAt bm (om + 1) (a.map bv) := fun v h j u hj => by
    rcases h with h | ⟨b', o', hA', hc⟩
    · cases h
    · cases hA'
      have := hc (j + 1) u (by simpa using hj)
      rwa [show om + 1 + j = om + (j + 1) by omega]
  have cf1 : ∀ v, Rd v (some ⟨bf, of, none⟩) [Value.int .u8 1] → v.cell? ⟨bf, of, none⟩ = some (.int .u8 1) := fun v h => by
    rcases h with h | ⟨b', o', hA', hc⟩
    · cases h
    · cases hA'; exact hc 0 _ rfl
  replace cm0 := Lib.hid cm0
  replace cf1 := Lib.hid cf1
  clear b6 b7 b67 aT a5 rf5 rf5' rm6 bw5 HE HE2 b5 rh5
  refine wp_region_rel [] Ext (by kernel_rfl) (by kernel_rfl) (by kernel_rfl) Ext.refl Ext.trans (by intro p hp; cases hp) ?_
  refine relMove Ext.refl rfl rfl rfl rfl _ (.inl rfl) (by conv => lhs; whnf) (by simp only [List.set_cons_succ, List.set_cons_zero]; rfl) ?_
  refine relMove Ext.refl rfl rfl rfl rfl _ (.inl rfl) (by conv => lhs; whnf) (by simp only [List.set_cons_succ, List.set_cons_zero]; rfl) ?_
  refine relPure Ext.refl rfl rfl rfl rfl (fun w _ => by go_simp; first | done | rfl) (by simp only [List.set_cons_succ, List.set_cons_zero]; rfl) ?_
  refine relPure Ext.refl rfl rfl rfl rfl (c := .slice Ah 1 ch) (fun w hw => by have := (aT7.below hw.drew).cell 1 _ rfl; go_simp; first | done | rfl) (by simp only [List.set_cons_succ, List.set_cons_zero]; rfl) ?_
  refine relPure Ext.refl rfl rfl rfl rfl (fun w _ => by go_simp; first | done | rfl) (by simp only [List.set_cons_succ, List.set_cons_zero]; rfl) ?_
  refine relPure Ext.refl rfl rfl rfl rfl (fun w _ => by go_simp; first | done | rfl) (by simp only [List.set_cons_succ, List.set_cons_zero]; rfl) ?_
  refine relPick Ext.refl rfl rfl rfl rfl _ _ _ rfl rfl (by conv => lhs; whnf) (by simp only [List.set_cons_succ, List.set_cons_zero]; rfl) ?_
  refine relMove Ext.refl rfl rfl rfl rfl _ (.inl rfl) (by conv => lhs; whnf) (by simp only [List.set_cons_succ, List.set_cons_zero]; rfl) ?_
  refine relPure Ext.refl rfl rfl rfl rfl (fun w _ => by go_simp; first | done | rfl) (by simp only [List.set_cons_succ, List.set_cons_zero]; rfl) ?_
  refine relPure Ext.refl rfl rfl rfl rfl (c := .slice (some ⟨bf, of, none⟩) 1 cf) (fun w hw => by have := (aT7.below hw.drew).cell 2 _ rfl; go_simp; first | done | rfl) (by simp only [List.set_cons_succ, List.set_cons_zero]; rfl) ?_
  refine relPure Ext.refl rfl rfl rfl rfl (fun w _ => by go_simp; first | done | rfl) (by simp only [List.set_cons_succ, List.set_cons_zero]; rfl) ?_
  refine relPure Ext.refl rfl rfl rfl rfl (fun w _ => by go_simp; first | done | rfl) (by simp only [List.set_cons_succ, List.set_cons_zero]; rfl) ?_
  refine relPick Ext.refl rfl rfl rfl rfl _ _ _ rfl rfl (by conv => lhs; whnf) (by simp only [List.set_cons_succ, List.set_cons_zero]; rfl) ?_
  refine relMove Ext.refl rfl rfl rfl rfl _ (.inl rfl) (by conv => lhs; whnf) (by simp only [List.set_cons_succ, List.set_cons_zero]; rfl) ?_
  refine relPure Ext.refl rfl rfl rfl rfl (fun w _ => by go_simp; first | done | rfl) (by simp only [List.set_cons_succ, List.set_cons_zero]; rfl) ?_
  refine relPure Ext.refl rfl rfl rfl rfl (c := .slice (some ⟨bf, of, none⟩) 1 cf) (fun w hw => by have := (aT7.below hw.drew).cell 2 _ rfl; go_simp; first | done | rfl) (by simp only [List.set_cons_succ, List.set_cons_zero]; rfl) ?_
  refine relPure Ext.refl rfl rfl rfl rfl (fun w _ => by go_simp; first | done | rfl) (by simp only [List.set_cons_succ, List.set_cons_zero]; rfl) ?_
  refine relPure Ext.refl rfl rfl rfl rfl (c := .int .u8 1) (fun w hw => by have := cf1.out _ (rf7.below hw.drew); go_simp; first | done | rfl) (by simp only [List.set_cons_succ, List.set_cons_zero]; rfl) ?_
  refine relPure Ext.refl rfl rfl rfl rfl (fun w _ => by go_simp; first | done | rfl) (by simp only [List.set_cons_succ, List.set_cons_zero]; rfl) ?_
  refine relPick Ext.refl rfl rfl rfl rfl _ _ _ rfl rfl (by conv => lhs; whnf) (by simp only [List.set_cons_succ, List.set_cons_zero]; rfl) ?_
  refine relMove Ext.refl rfl rfl rfl rfl _ (.inl rfl) (by conv => lhs; whnf) (by simp only [List.set_cons_succ, List.set_cons_zero]; rfl) ?_
  refine relPure Ext.refl rfl rfl rfl rfl (c := .agg (hcs a)) (fun w hw => exec_loadAv (aR.below hw.drew) _ _ rfl rfl _ 32 ha32.out Tryd.underlying28 rfl (by kernel_rfl)) (by simp only [List.set_cons_succ, List.set_cons_zero]; rfl) ?_
  refine relPure Ext.refl rfl rfl rfl rfl (c := .agg (hcs a)) (fun w hw => exec_loadAv (aX7.below hw.drew) _ _ rfl rfl _ 32 ha32.out Tryd.underlying28 rfl (by kernel_rfl)) (by simp only [List.set_cons_succ, List.set_cons_zero]; rfl) ?_
  refine relBin Ext.refl rfl rfl rfl rfl _ _ _ _ _ rfl (by conv => lhs; whnf) (by conv => lhs; whnf) (c := .bool true) (fun w => EQ.out _ _ w) (by simp only [List.set_cons_succ, List.set_cons_zero]; rfl) ?_
  refine relPick Ext.refl rfl rfl rfl rfl _ _ _ rfl rfl (by conv => lhs; whnf) (by simp only [List.set_cons_succ, List.set_cons_zero]; rfl) ?_
  refine relMove Ext.refl rfl rfl rfl rfl _ (.inl rfl) (by conv => lhs; whnf) (by simp only [List.set_cons_succ, List.set_cons_zero]; rfl) ?_
  refine relMove Ext.refl rfl rfl rfl rfl _ (.inl rfl) (by conv => lhs; whnf) (by simp only [List.set_cons_succ, List.set_cons_zero]; rfl) ?_
  refine relPure Ext.refl rfl rfl rfl rfl (fun w _ => by go_simp; first | done | rfl) (by simp only [List.set_cons_succ, List.set_cons_zero]; rfl) ?_
  refine relPure Ext.refl rfl rfl rfl rfl (fun w _ => by go_simp; first | done | rfl) (by simp only [List.set_cons_succ, List.set_cons_zero]; rfl) ?_
  refine relPick Ext.refl rfl rfl rfl rfl _ _ _ rfl rfl (by conv => lhs; whnf) (by simp only [List.set_cons_succ, List.set_cons_zero]; rfl) ?_
  refine relMove Ext.refl rfl rfl rfl rfl _ (.inl rfl) (by conv => lhs; whnf) (by simp only [List.set_cons_succ, List.set_cons_zero]; rfl) ?_
  refine relMove Ext.refl rfl rfl rfl rfl _ (.inl rfl) (by conv => lhs; whnf) (by simp only [List.set_cons_succ, List.set_cons_zero]; rfl) ?_
  refine relPure Ext.refl rfl rfl rfl rfl (fun w _ => by go_simp; first | done | rfl) (by simp only [List.set_cons_succ, List.set_cons_zero]; rfl) ?_
  refine relPure Ext.refl rfl rfl rfl rfl (c := .pointer (some ⟨bm, om + 1, none⟩)) (fun w _ => by go_simp; first | done | rfl) (by simp only [List.set_cons_succ, List.set_cons_zero]; rfl) ?_
  refine relPure Ext.refl rfl rfl rfl rfl (c := .agg (hcs a)) (fun w hw => exec_load_mid _ _ rfl bm (om + 1) rfl (a.map bv) _ (cm0.out _ (rm7.below hw.drew)) Tryd.underlying28 rfl (by rw [ha32.out]; kernel_rfl)) (by simp only [List.set_cons_succ, List.set_cons_zero]; rfl) ?_
  refine relPure Ext.refl rfl rfl rfl rfl (c := .agg (hcs a)) (fun w hw => exec_loadAv (aX7.below hw.drew) _ _ rfl rfl _ 32 ha32.out Tryd.underlying28 rfl (by kernel_rfl)) (by simp only [List.set_cons_succ, List.set_cons_zero]; rfl) ?_
  refine relBin Ext.refl rfl rfl rfl rfl _ _ _ _ _ rfl (by conv => lhs; whnf) (by conv => lhs; whnf) (c := .bool true) (fun w => EQ.out _ _ w) (by simp only [List.set_cons_succ, List.set_cons_zero]; rfl) ?_
  refine relPick Ext.refl rfl rfl rfl rfl _ _ _ rfl rfl (by conv => lhs; whnf) (by simp only [List.set_cons_succ, List.set_cons_zero]; rfl) ?_
  refine relMove Ext.refl rfl rfl rfl rfl _ (.inl rfl) (by conv => lhs; whnf) (by simp only [List.set_cons_succ, List.set_cons_zero]; rfl) ?_
  refine relMove Ext.refl rfl rfl rfl rfl _ (.inl rfl) (by conv => lhs; whnf) (by simp only [List.set_cons_succ, List.set_cons_zero]; rfl) ?_
  refine relPure Ext.refl rfl rfl rfl rfl (fun w _ => by go_simp; first | done | rfl) (by simp only [List.set_cons_succ, List.set_cons_zero]; rfl) ?_
  refine relPick Ext.refl rfl rfl rfl rfl _ _ _ rfl rfl (by conv => lhs; whnf) (by simp only [List.set_cons_succ, List.set_cons_zero]; rfl) ?_
  refine relMove Ext.refl rfl rfl rfl rfl _ (.inr rfl) (by conv => lhs; whnf) (by simp only [List.set_cons_zero]; rfl) ?_
  refine relEnd fun w8 hw8 => fill_end ?_
  go_wp2
  go_ret
  exact ⟨rfl, bw7.trans (hw8.drew.mono bw7.size)⟩
end Go.Proofs.YtmdllemgjhkphaaDoor
