/- florinlaw10.MerkleHalves: the walk. -/
import Derived.Test.YtngindljhlbglaaDoorMdl
namespace Go.Proofs.YtngindljhlbglaaDoor
open Go.RowKit
section
variable (w : World) (A : Option Addr) (n c : Nat)
theorem size_h : (Tryd.prog.info? 25).map (·.size) = some 32 := by kernel_rfl
theorem slH_l (kl : IntKind) (l : Int) (h0 : 0 ≤ l) (h1 : l ≤ n) :
    (Instr.slice 22 (.slice A n c) (some (.int kl l)) none none).run Tryd.prog w = .ok (.slice (subA A c l.toNat 32) (n - l.toNat) (c - l.toNat)) w :=
  run_slice_l_sub w _ _ A n c 32 Tryd.underlying22 size_h kl l h0 h1
theorem slH_h (kh : IntKind) (h : Int) (h0 : 0 ≤ h) (h2 : h ≤ c) :
    (Instr.slice 22 (.slice A n c) none (some (.int kh h)) none).run Tryd.prog w = .ok (.slice A h.toNat c) w :=
  run_slice_h_sub w _ _ A n c 32 Tryd.underlying22 size_h kh h h0 h2
end
attribute [local go_sem high] slH_l slH_h
theorem All32.take {l : List (List UInt8)} (h : All32 l) (n : Nat) : All32 (l.take n) := fun x hx => h x (List.mem_of_mem_take hx)
theorem All32.drop {l : List (List UInt8)} (h : All32 l) (n : Nat) : All32 (l.drop n) := fun x hx => h x (List.mem_of_mem_drop hx)
theorem hcl_take {l : List (List UInt8)} (h : All32 l) (n : Nat) (hn : n ≤ l.length) : hcl (l.take n) = (hcl l).take (32 * n) := by
  have e : hcl l = hcl (l.take n) ++ hcl (l.drop n) := by rw [← hcl_append, List.take_append_drop]
  have hl : (hcl (l.take n)).length = 32 * n := by rw [hcl_length (h.take n), List.length_take]; omega
  rw [e, ← hl, List.take_left']
  rfl
theorem hcl_drop {l : List (List UInt8)} (h : All32 l) (n : Nat) (hn : n ≤ l.length) : hcl (l.drop n) = (hcl l).drop (32 * n) := by
  have e : hcl l = hcl (l.take n) ++ hcl (l.drop n) := by rw [← hcl_append, List.take_append_drop]
  have hl : (hcl (l.take n)).length = 32 * n := by rw [hcl_length (h.take n), List.length_take]; omega
  rw [e, ← hl, List.drop_left']
  rfl
theorem mUp_append : ∀ (x y : List (List UInt8)), x.length % 2 = 0 → mUp (x ++ y) = mUp x ++ mUp y
  | [], y, _ => by rw [mUp]; rfl
  | [_], y, h => by simp at h
  | a :: b :: r, y, h => by
    rw [List.cons_append, List.cons_append, mUp, mUp_append r y (by simp at h; omega), mUp]
    rfl
theorem mRootF_halves : ∀ (k : Nat) (x y : List (List UInt8)) (f g : Nat), x.length = 2 ^ k → y.length = 2 ^ k → k + 1 ≤ f → k ≤ g →
    mRootOf (mLvF f (x ++ y)) = pairB (mRootOf (mLvF g x)) (mRootOf (mLvF g y))
  | 0, x, y, f, g, hx, hy, hf, hg => by
    obtain ⟨a, rfl⟩ : ∃ a, x = [a] := List.length_eq_one_iff.1 hx
    obtain ⟨b, rfl⟩ : ∃ b, y = [b] := List.length_eq_one_iff.1 hy
    obtain ⟨f, rfl⟩ : ∃ f', f = f' + 1 := ⟨f - 1, by omega⟩
    rw [mLvF_one g [a] (by simp), mLvF_one g [b] (by simp)]
    rw [mLvF, if_neg (by simp), mRootOf_cons _ _ (mLvF_ne _ _)]
    have e : mUp ([a] ++ [b]) = [pairB a b] := by simp [mUp]
    rw [e, mLvF_one _ _ (by simp)]
    simp [mRootOf]
  | k + 1, x, y, f, g, hx, hy, hf, hg => by
    obtain ⟨f, rfl⟩ : ∃ f', f = f' + 1 := ⟨f - 1, by omega⟩
    obtain ⟨g, rfl⟩ : ∃ g', g = g' + 1 := ⟨g - 1, by omega⟩
    have hp : 0 < 2 ^ k := Nat.pow_pos (by omega)
    rw [Nat.pow_succ] at hx hy
    rw [mLvF, if_neg (by rw [List.length_append]; omega), mRootOf_cons _ _ (mLvF_ne _ _)]
    rw [mLvF, if_neg (by omega), mRootOf_cons _ _ (mLvF_ne _ _)]
    rw [mLvF, if_neg (by omega), mRootOf_cons _ _ (mLvF_ne _ _)]
    rw [mUp_append x y (by omega)]
    exact mRootF_halves k (mUp x) (mUp y) f g (by rw [mUp_length]; omega) (by rw [mUp_length]; omega) (by omega) (by omega)
theorem mRoot_halves (k : Nat) (hk : k ≤ 3) (x y : List (List UInt8)) (hx : x.length = 2 ^ k) (hy : y.length = 2 ^ k) : mRootOf (mLv (x ++ y)) = pairB (mRootOf (mLv x)) (mRootOf (mLv y)) := by
  have hp : 0 < 2 ^ k := Nat.pow_pos (by omega)
  have hp2 : 2 ^ k ≤ 2 ^ 3 := Nat.pow_le_pow_right (by omega) hk
  rw [mLv, if_neg (by rw [List.length_append]; omega), mLv, if_neg (by omega), mLv, if_neg (by omega)]
  exact mRootF_halves k x y 12 12 hx hy (by omega) (by omega)
theorem mRoot_length (l : List (List UInt8)) (h : All32 l) : (mRootOf (mLv l)).length = 32 := by
  have := mRootOf_length l h (mLv l).length
  rwa [List.take_of_length_le (Nat.le_refl _)] at this

set_option maxRecDepth 10000 in
set_option maxHeartbeats 1000000 in
theorem halves_early (h : Int) (k : Int) (hk : bits .and .i64 h 3 = k) (hk2 : k = 0 ∨ k = 1 ∨ k = 2 ∨ k = 3) (n : Nat) (hn : (n : Int) < 2 * 2 ^ k.toNat) (A : Option Addr) (c : Nat) (w : World) (ht : Tabs w) :
    Calls Tryd.prog 4 #[.slice A n c, .int .i64 h] w fun e w' => e = .returned (.bool true) ∧ Below w.heap.size w w' := by
  have HA := Lib.hid (awake10 w ht)
  rcases hk2 with rfl | rfl | rfl | rfl
  · have t1 : decide ((n : Int) < 2) = true := by simp; simp at hn; omega
    go_enter Tryd.func4, Tryd.ntmps4
    go_wp2_with (go_at_call 9; refine (HA.out).mono ?_; rintro e w1 ⟨rfl, b1⟩)
    go_ret
    exact ⟨rfl, b1⟩
  · have t1 : decide ((n : Int) < 4) = true := by simp; simp at hn; omega
    go_enter Tryd.func4, Tryd.ntmps4
    go_wp2_with (go_at_call 9; refine (HA.out).mono ?_; rintro e w1 ⟨rfl, b1⟩)
    go_ret
    exact ⟨rfl, b1⟩
  · have t1 : decide ((n : Int) < 8) = true := by simp; simp at hn; omega
    go_enter Tryd.func4, Tryd.ntmps4
    go_wp2_with (go_at_call 9; refine (HA.out).mono ?_; rintro e w1 ⟨rfl, b1⟩)
    go_ret
    exact ⟨rfl, b1⟩
  · have t1 : decide ((n : Int) < 16) = true := by simp; simp at hn; omega
    go_enter Tryd.func4, Tryd.ntmps4
    go_wp2_with (go_at_call 9; refine (HA.out).mono ?_; rintro e w1 ⟨rfl, b1⟩)
    go_ret
    exact ⟨rfl, b1⟩

set_option maxRecDepth 10000 in
set_option maxHeartbeats 2000000 in
theorem halves_1 (h : Int) (hk : bits .and .i64 h 3 = 0) (l : List (List UInt8)) (h32 : All32 l) (n : Nat) (hn : l.length = n) (hnl : 2 ≤ n) (A : Option Addr) (c : Nat) (hc : n ≤ c) (w : World) (hr : Rd w A (hcl l)) (ht : Tabs w) :
    Calls Tryd.prog 4 #[.slice A n c, .int .i64 h] w fun e w' => e = .returned (.bool true) ∧ Below w.heap.size w w' := by
  have hz := zeros_32
  have hzl : (List.replicate 32 (0 : UInt8)).length = 32 := by simp
  obtain ⟨zs, hzs⟩ : ∃ zs : List UInt8, zs = List.replicate 32 0 := ⟨_, rfl⟩
  rw [← hzs] at hz hzl
  clear hzs
  replace hzl := Lib.hid hzl
  obtain ⟨x, hx⟩ : ∃ x, x = l.take 1 := ⟨_, rfl⟩
  obtain ⟨y, hy⟩ : ∃ y, y = (l.take 2).drop 1 := ⟨_, rfl⟩
  have hxy : x ++ y = l.take 2 := by
    have e := List.take_append_drop 1 (l.take 2)
    rw [List.take_take, show min 1 2 = 1 by decide] at e
    rw [hx, hy]
    exact e
  have hx32 : All32 x := by rw [hx]; exact h32.take _
  have hy32 : All32 y := by rw [hy]; exact (h32.take _).drop _
  have hxl : x.length = 1 := by rw [hx, List.length_take]; omega
  have hyl : y.length = 1 := by rw [hy, List.length_drop, List.length_take]; omega
  have hm32 : All32 (x ++ y) := hx32.append hy32
  have rm : Rd w A (hcl (x ++ y)) := by rw [hxy, hcl_take h32 _ (by omega)]; exact hr.take _
  have rx : Rd w A (hcl x) := by rw [hx, hcl_take h32 _ (by omega)]; exact hr.take _
  have ry : Rd w (subA A c 1 32) (hcl y) := by
    have h1 := rm.sub c 1 32 (by rw [hcl_length hm32, List.length_append, hxl, hyl]; omega)
    rw [hcl_append, show 1 * 32 = (hcl x).length by rw [hcl_length hx32, hxl], List.drop_left'] at h1
    · exact h1
    · rfl
  obtain ⟨B, hB⟩ : ∃ B, subA A c 1 32 = B := ⟨_, rfl⟩
  rw [hB] at ry
  have hroot := mRoot_halves 0 (by omega) x y hxl hyl
  have R1 := Root x hx32
  have R2 := Root y hy32
  have R3 := Root (x ++ y) hm32
  have hr1 := mRoot_length x hx32
  have hr2 := mRoot_length y hy32
  have hr3 := mRoot_length (x ++ y) hm32
  generalize mAlike (mLv x) = x1 at R1
  generalize mAlike (mLv y) = x2 at R2
  generalize mAlike (mLv (x ++ y)) = x3 at R3
  generalize mRootOf (mLv x) = a at *
  generalize mRootOf (mLv y) = b at *
  generalize mRootOf (mLv (x ++ y)) = r at *
  have PP := Lib.hid (fun w ht => Pair a b hr1 hr2 w ht)
  rw [← hroot] at PP
  clear hroot
  have heq : ∀ w, (binOp .eql 25 (.agg (hcs r)) (.agg (hcs r))).run Tryd.prog w = .ok (.bool true) w := fun w => by
    rw [eqlH r r hr3 hr3, beq_self_eq_true]
  replace hr1 := Lib.hid hr1
  replace hr2 := Lib.hid hr2
  replace hr3 := Lib.hid hr3
  replace R1 := Lib.hid R1
  replace R2 := Lib.hid R2
  replace R3 := Lib.hid R3
  have HA := Lib.hid (awake10 w ht)
  have t1 : decide ((n : Int) < 2) = false := by simp; omega
  have t2 : (2 : Int) ≤ (c : Int) := by omega
  have t3 : (1 : Int) ≤ (c : Int) := by omega
  have hml : (x ++ y).length = 2 := by rw [List.length_append, hxl, hyl]
  replace hxl := Lib.hid hxl
  replace hyl := Lib.hid hyl
  replace hml := Lib.hid hml
  replace hn := Lib.hid hn
  clear hx hy hxy hr h32
  obtain ⟨c2, hc2⟩ : ∃ c2, c - 1 = c2 := ⟨_, rfl⟩
  have HH2 := Lib.hid (Height 2 1 (by omega) (by
    intro j hj
    obtain rfl : j = 0 := by omega
    decide) (by decide))
  have HH1 := Lib.hid (Height 1 0 (by omega) (by
    intro j hj; omega) (by decide))
  have HW := Lib.hid (fun w => Width 2 1 w)
  rw [show mWidth 2 1 = 1 by decide] at HW
  go_enter Tryd.func4, Tryd.ntmps4
  go_wp2_with (go_at_call 9; refine (HA.out).mono ?_; rintro e w1 ⟨rfl, b1⟩)
  refine (R1.out A 1 c hxl.out (by omega) w1 (rx.below b1) (ht.below b1)).mono ?_
  rintro e w2 ⟨rfl, b2⟩
  replace b2 := b1.trans (b2.mono b1.size)
  clear b1
  go_upto_region 7 with (refine wpList_storeAv (b2.alloc b2.size _) (heap_alloc_new _ _) b2.size rfl _ _ _ rfl rfl (a.map bv) rfl 32 (by rw [List.length_map, hr1.out]) (by kernel_rfl) (by rw [List.size_toArray, List.length_map]; exact hzl.out) (by simp [Value.oneCell']) ?_; intro w3 a3 b3 kw3 sw3; replace sw3 := Lib.hid sw3)
  clear kw3
  go_wp2_with fail
  refine (R2.out B 1 c2 hyl.out (by omega) w3 (ry.below b3) (ht.below b3)).mono ?_
  rintro e w4 ⟨rfl, b4⟩
  replace a3 := a3.below b4
  replace b4 := b3.trans (b4.mono b3.size)
  go_upto_region 8 with (refine wpList_storeAv (b4.alloc b4.size _) (heap_alloc_new _ _) b4.size rfl _ _ _ rfl rfl (b.map bv) rfl 32 (by rw [List.length_map, hr2.out]) (by kernel_rfl) (by rw [List.size_toArray, List.length_map]; exact hzl.out) (by simp [Value.oneCell']) ?_; intro w5 a4 b5 kw5 sw5; replace sw5 := Lib.hid sw5)
  replace a3 := (a3.alloc (.cells (zs.map bv).toArray 25)).same (kw5 _ (Nat.ne_of_lt a3.lt))
  clear kw5 b3 b4
  go_wp2_with fail
  refine (R3.out A 2 c hml.out (by omega) w5 (rm.below b5) (ht.below b5)).mono ?_
  rintro e w6 ⟨rfl, b6⟩
  replace a3 := a3.below b6
  replace a4 := a4.below b6
  replace b6 := b5.trans (b6.mono b5.size)
  go_upto_region 9 with (refine wpList_storeAv (b6.alloc b6.size _) (heap_alloc_new _ _) b6.size rfl _ _ _ rfl rfl (r.map bv) rfl 32 (by rw [List.length_map, hr3.out]) (by kernel_rfl) (by rw [List.size_toArray, List.length_map]; exact hzl.out) (by simp [Value.oneCell']) ?_; intro w7 a6 b7 kw7 sw7; replace sw7 := Lib.hid sw7)
  replace a3 := (a3.alloc (.cells (zs.map bv).toArray 25)).same (kw7 _ (Nat.ne_of_lt a3.lt))
  replace a4 := (a4.alloc (.cells (zs.map bv).toArray 25)).same (kw7 _ (Nat.ne_of_lt a4.lt))
  clear kw7 b6 b5
  have H1 : ∀ w', Ext w7.drew w' → Below w.heap.size w w' := fun w' hE => b7.trans (hE.drew.mono b7.size)
  refine wp_region_relT 24 [] Ext (by kernel_rfl) (by kernel_rfl) (by kernel_rfl) (by kernel_rfl) (by kernel_rfl) Ext.refl Ext.trans (by intro p hp; cases hp) ?_
  refine relMove Ext.refl rfl rfl rfl rfl _ (.inl rfl) (by conv => lhs; whnf) (by simp only [List.set_cons_succ, List.set_cons_zero]; rfl) ?_
  refine relMove Ext.refl rfl rfl rfl rfl _ (.inl rfl) (by conv => lhs; whnf) (by simp only [List.set_cons_succ, List.set_cons_zero]; rfl) ?_
  refine relPure Ext.refl rfl rfl rfl rfl (c := .agg (r.map bv).toArray) (fun w hw => exec_loadAv (a6.below hw.drew) _ _ rfl rfl _ 32 (by rw [List.length_map, hr3.out]) Tryd.underlying25 rfl (by kernel_rfl)) (by simp only [List.set_cons_succ, List.set_cons_zero]; rfl) ?_
  refine relPure Ext.refl rfl rfl rfl rfl (c := .agg (a.map bv).toArray) (fun w hw => exec_loadAv (a3.below hw.drew) _ _ rfl rfl _ 32 (by rw [List.length_map, hr1.out]) Tryd.underlying25 rfl (by kernel_rfl)) (by simp only [List.set_cons_succ, List.set_cons_zero]; rfl) ?_
  refine relPure Ext.refl rfl rfl rfl rfl (c := .agg (b.map bv).toArray) (fun w hw => exec_loadAv (a4.below hw.drew) _ _ rfl rfl _ 32 (by rw [List.length_map, hr2.out]) Tryd.underlying25 rfl (by kernel_rfl)) (by simp only [List.set_cons_succ, List.set_cons_zero]; rfl) ?_
  refine relCall1 rfl rfl rfl rfl (c := .agg (hcs r)) 11 #[.agg (hcs a), .agg (hcs b)] (fun w => by go_simp) (fun w hw => (PP.out w (ht.below (H1 w hw))).mono ?_) (by simp only [List.set_cons_succ, List.set_cons_zero]; rfl) ?_
  · rintro e w' ⟨rfl, hb⟩
    exact ⟨rfl, hb⟩
  refine relPure Ext.refl rfl rfl rfl rfl (c := .bool true) (fun w _ => by go_simp; first | done | rfl) (by simp only [List.set_cons_succ, List.set_cons_zero]; rfl) ?_
  refine relPick Ext.refl rfl rfl rfl rfl _ _ _ rfl rfl (by conv => lhs; whnf) (by simp only [List.set_cons_succ, List.set_cons_zero]; rfl) ?_
  refine relMove Ext.refl rfl rfl rfl rfl _ (.inl rfl) (by conv => lhs; whnf) (by simp only [List.set_cons_succ, List.set_cons_zero]; rfl) ?_
  refine relMove Ext.refl rfl rfl rfl rfl _ (.inl rfl) (by conv => lhs; whnf) (by simp only [List.set_cons_succ, List.set_cons_zero]; rfl) ?_
  refine relPure Ext.refl rfl rfl rfl rfl (c := .int .i64 2) (fun w _ => by go_simp; first | done | rfl) (by simp only [List.set_cons_succ, List.set_cons_zero]; rfl) ?_
  refine relCall1 rfl rfl rfl rfl (c := .int .i64 1) 12 #[.int .i64 2] (fun w => by go_simp) (fun w hw => (HH2.out w).mono ?_) (by simp only [List.set_cons_succ, List.set_cons_zero]; rfl) ?_
  · rintro e w' ⟨rfl, rfl⟩
    exact ⟨rfl, Ext.refl _⟩
  refine relMove Ext.refl rfl rfl rfl rfl _ (.inl rfl) (by conv => lhs; whnf) (by simp only [List.set_cons_succ, List.set_cons_zero]; rfl) ?_
  refine relCall1 rfl rfl rfl rfl (c := .int .i64 0) 12 #[.int .i64 1] (fun w => by go_simp) (fun w hw => (HH1.out w).mono ?_) (by simp only [List.set_cons_succ, List.set_cons_zero]; rfl) ?_
  · rintro e w' ⟨rfl, rfl⟩
    exact ⟨rfl, Ext.refl _⟩
  refine relPure Ext.refl rfl rfl rfl rfl (c := .int .i64 1) (fun w _ => by go_simp; first | done | rfl) (by simp only [List.set_cons_succ, List.set_cons_zero]; rfl) ?_
  refine relPure Ext.refl rfl rfl rfl rfl (c := .bool true) (fun w _ => by go_simp; first | done | rfl) (by simp only [List.set_cons_succ, List.set_cons_zero]; rfl) ?_
  refine relPick Ext.refl rfl rfl rfl rfl _ _ _ rfl rfl (by conv => lhs; whnf) (by simp only [List.set_cons_succ, List.set_cons_zero]; rfl) ?_
  refine relMove Ext.refl rfl rfl rfl rfl _ (.inl rfl) (by conv => lhs; whnf) (by simp only [List.set_cons_succ, List.set_cons_zero]; rfl) ?_
  refine relMove Ext.refl rfl rfl rfl rfl _ (.inl rfl) (by conv => lhs; whnf) (by simp only [List.set_cons_succ, List.set_cons_zero]; rfl) ?_
  refine relPure Ext.refl rfl rfl rfl rfl (c := .int .i64 2) (fun w _ => by go_simp; first | done | rfl) (by simp only [List.set_cons_succ, List.set_cons_zero]; rfl) ?_
  refine relCall1 rfl rfl rfl rfl (c := .int .i64 1) 13 #[.int .i64 2, .int .i64 1] (fun w => by go_simp) (fun w hw => (HW.out w).mono ?_) (by simp only [List.set_cons_succ, List.set_cons_zero]; rfl) ?_
  · rintro e w' ⟨rfl, rfl⟩
    exact ⟨rfl, Ext.refl _⟩
  refine relMove Ext.refl rfl rfl rfl rfl _ (.inl rfl) (by conv => lhs; whnf) (by simp only [List.set_cons_succ, List.set_cons_zero]; rfl) ?_
  refine relPure Ext.refl rfl rfl rfl rfl (c := .bool true) (fun w _ => by go_simp; first | done | rfl) (by simp only [List.set_cons_succ, List.set_cons_zero]; rfl) ?_
  refine relPick Ext.refl rfl rfl rfl rfl _ _ _ rfl rfl (by conv => lhs; whnf) (by simp only [List.set_cons_succ, List.set_cons_zero]; rfl) ?_
  refine relEnd fun w10 hw10 => fill_end ?_
  simp only [List.drop_succ_cons, List.drop_zero]
  go_wp2
  go_ret
  exact ⟨rfl, H1 w10 hw10⟩

set_option maxRecDepth 10000 in
set_option maxHeartbeats 2000000 in
theorem halves_2 (h : Int) (hk : bits .and .i64 h 3 = 1) (l : List (List UInt8)) (h32 : All32 l) (n : Nat) (hn : l.length = n) (hnl : 4 ≤ n) (A : Option Addr) (c : Nat) (hc : n ≤ c) (w : World) (hr : Rd w A (hcl l)) (ht : Tabs w) :
    Calls Tryd.prog 4 #[.slice A n c, .int .i64 h] w fun e w' => e = .returned (.bool true) ∧ Below w.heap.size w w' := by
  have hz := zeros_32
  have hzl : (List.replicate 32 (0 : UInt8)).length = 32 := by simp
  obtain ⟨zs, hzs⟩ : ∃ zs : List UInt8, zs = List.replicate 32 0 := ⟨_, rfl⟩
  rw [← hzs] at hz hzl
  clear hzs
  replace hzl := Lib.hid hzl
  obtain ⟨x, hx⟩ : ∃ x, x = l.take 2 := ⟨_, rfl⟩
  obtain ⟨y, hy⟩ : ∃ y, y = (l.take 4).drop 2 := ⟨_, rfl⟩
  have hxy : x ++ y = l.take 4 := by
    have e := List.take_append_drop 2 (l.take 4)
    rw [List.take_take, show min 2 4 = 2 by decide] at e
    rw [hx, hy]
    exact e
  have hx32 : All32 x := by rw [hx]; exact h32.take _
  have hy32 : All32 y := by rw [hy]; exact (h32.take _).drop _
  have hxl : x.length = 2 := by rw [hx, List.length_take]; omega
  have hyl : y.length = 2 := by rw [hy, List.length_drop, List.length_take]; omega
  have hm32 : All32 (x ++ y) := hx32.append hy32
  have rm : Rd w A (hcl (x ++ y)) := by rw [hxy, hcl_take h32 _ (by omega)]; exact hr.take _
  have rx : Rd w A (hcl x) := by rw [hx, hcl_take h32 _ (by omega)]; exact hr.take _
  have ry : Rd w (subA A c 2 32) (hcl y) := by
    have h1 := rm.sub c 2 32 (by rw [hcl_length hm32, List.length_append, hxl, hyl]; omega)
    rw [hcl_append, show 2 * 32 = (hcl x).length by rw [hcl_length hx32, hxl], List.drop_left'] at h1
    · exact h1
    · rfl
  obtain ⟨B, hB⟩ : ∃ B, subA A c 2 32 = B := ⟨_, rfl⟩
  rw [hB] at ry
  have hroot := mRoot_halves 1 (by omega) x y hxl hyl
  have R1 := Root x hx32
  have R2 := Root y hy32
  have R3 := Root (x ++ y) hm32
  have hr1 := mRoot_length x hx32
  have hr2 := mRoot_length y hy32
  have hr3 := mRoot_length (x ++ y) hm32
  generalize mAlike (mLv x) = x1 at R1
  generalize mAlike (mLv y) = x2 at R2
  generalize mAlike (mLv (x ++ y)) = x3 at R3
  generalize mRootOf (mLv x) = a at *
  generalize mRootOf (mLv y) = b at *
  generalize mRootOf (mLv (x ++ y)) = r at *
  have PP := Lib.hid (fun w ht => Pair a b hr1 hr2 w ht)
  rw [← hroot] at PP
  clear hroot
  have heq : ∀ w, (binOp .eql 25 (.agg (hcs r)) (.agg (hcs r))).run Tryd.prog w = .ok (.bool true) w := fun w => by
    rw [eqlH r r hr3 hr3, beq_self_eq_true]
  replace hr1 := Lib.hid hr1
  replace hr2 := Lib.hid hr2
  replace hr3 := Lib.hid hr3
  replace R1 := Lib.hid R1
  replace R2 := Lib.hid R2
  replace R3 := Lib.hid R3
  have HA := Lib.hid (awake10 w ht)
  have t1 : decide ((n : Int) < 4) = false := by simp; omega
  have t2 : (4 : Int) ≤ (c : Int) := by omega
  have t3 : (2 : Int) ≤ (c : Int) := by omega
  have hml : (x ++ y).length = 4 := by rw [List.length_append, hxl, hyl]
  replace hxl := Lib.hid hxl
  replace hyl := Lib.hid hyl
  replace hml := Lib.hid hml
  replace hn := Lib.hid hn
  clear hx hy hxy hr h32
  obtain ⟨c2, hc2⟩ : ∃ c2, c - 2 = c2 := ⟨_, rfl⟩
  have HH2 := Lib.hid (Height 4 2 (by omega) (by
    intro j hj
    rcases (show j = 0 ∨ j = 1 by omega) with rfl | rfl <;> decide) (by decide))
  have HH1 := Lib.hid (Height 2 1 (by omega) (by
    intro j hj
    obtain rfl : j = 0 := by omega
    decide) (by decide))
  have HW := Lib.hid (fun w => Width 4 1 w)
  rw [show mWidth 4 1 = 2 by decide] at HW
  go_enter Tryd.func4, Tryd.ntmps4
  go_wp2_with (go_at_call 9; refine (HA.out).mono ?_; rintro e w1 ⟨rfl, b1⟩)
  refine (R1.out A 2 c hxl.out (by omega) w1 (rx.below b1) (ht.below b1)).mono ?_
  rintro e w2 ⟨rfl, b2⟩
  replace b2 := b1.trans (b2.mono b1.size)
  clear b1
  go_upto_region 7 with (refine wpList_storeAv (b2.alloc b2.size _) (heap_alloc_new _ _) b2.size rfl _ _ _ rfl rfl (a.map bv) rfl 32 (by rw [List.length_map, hr1.out]) (by kernel_rfl) (by rw [List.size_toArray, List.length_map]; exact hzl.out) (by simp [Value.oneCell']) ?_; intro w3 a3 b3 kw3 sw3; replace sw3 := Lib.hid sw3)
  clear kw3
  go_wp2_with fail
  refine (R2.out B 2 c2 hyl.out (by omega) w3 (ry.below b3) (ht.below b3)).mono ?_
  rintro e w4 ⟨rfl, b4⟩
  replace a3 := a3.below b4
  replace b4 := b3.trans (b4.mono b3.size)
  go_upto_region 8 with (refine wpList_storeAv (b4.alloc b4.size _) (heap_alloc_new _ _) b4.size rfl _ _ _ rfl rfl (b.map bv) rfl 32 (by rw [List.length_map, hr2.out]) (by kernel_rfl) (by rw [List.size_toArray, List.length_map]; exact hzl.out) (by simp [Value.oneCell']) ?_; intro w5 a4 b5 kw5 sw5; replace sw5 := Lib.hid sw5)
  replace a3 := (a3.alloc (.cells (zs.map bv).toArray 25)).same (kw5 _ (Nat.ne_of_lt a3.lt))
  clear kw5 b3 b4
  go_wp2_with fail
  refine (R3.out A 4 c hml.out (by omega) w5 (rm.below b5) (ht.below b5)).mono ?_
  rintro e w6 ⟨rfl, b6⟩
  replace a3 := a3.below b6
  replace a4 := a4.below b6
  replace b6 := b5.trans (b6.mono b5.size)
  go_upto_region 9 with (refine wpList_storeAv (b6.alloc b6.size _) (heap_alloc_new _ _) b6.size rfl _ _ _ rfl rfl (r.map bv) rfl 32 (by rw [List.length_map, hr3.out]) (by kernel_rfl) (by rw [List.size_toArray, List.length_map]; exact hzl.out) (by simp [Value.oneCell']) ?_; intro w7 a6 b7 kw7 sw7; replace sw7 := Lib.hid sw7)
  replace a3 := (a3.alloc (.cells (zs.map bv).toArray 25)).same (kw7 _ (Nat.ne_of_lt a3.lt))
  replace a4 := (a4.alloc (.cells (zs.map bv).toArray 25)).same (kw7 _ (Nat.ne_of_lt a4.lt))
  clear kw7 b6 b5
  have H1 : ∀ w', Ext w7.drew w' → Below w.heap.size w w' := fun w' hE => b7.trans (hE.drew.mono b7.size)
  refine wp_region_relT 24 [] Ext (by kernel_rfl) (by kernel_rfl) (by kernel_rfl) (by kernel_rfl) (by kernel_rfl) Ext.refl Ext.trans (by intro p hp; cases hp) ?_
  refine relMove Ext.refl rfl rfl rfl rfl _ (.inl rfl) (by conv => lhs; whnf) (by simp only [List.set_cons_succ, List.set_cons_zero]; rfl) ?_
  refine relMove Ext.refl rfl rfl rfl rfl _ (.inl rfl) (by conv => lhs; whnf) (by simp only [List.set_cons_succ, List.set_cons_zero]; rfl) ?_
  refine relPure Ext.refl rfl rfl rfl rfl (c := .agg (r.map bv).toArray) (fun w hw => exec_loadAv (a6.below hw.drew) _ _ rfl rfl _ 32 (by rw [List.length_map, hr3.out]) Tryd.underlying25 rfl (by kernel_rfl)) (by simp only [List.set_cons_succ, List.set_cons_zero]; rfl) ?_
  refine relPure Ext.refl rfl rfl rfl rfl (c := .agg (a.map bv).toArray) (fun w hw => exec_loadAv (a3.below hw.drew) _ _ rfl rfl _ 32 (by rw [List.length_map, hr1.out]) Tryd.underlying25 rfl (by kernel_rfl)) (by simp only [List.set_cons_succ, List.set_cons_zero]; rfl) ?_
  refine relPure Ext.refl rfl rfl rfl rfl (c := .agg (b.map bv).toArray) (fun w hw => exec_loadAv (a4.below hw.drew) _ _ rfl rfl _ 32 (by rw [List.length_map, hr2.out]) Tryd.underlying25 rfl (by kernel_rfl)) (by simp only [List.set_cons_succ, List.set_cons_zero]; rfl) ?_
  refine relCall1 rfl rfl rfl rfl (c := .agg (hcs r)) 11 #[.agg (hcs a), .agg (hcs b)] (fun w => by go_simp) (fun w hw => (PP.out w (ht.below (H1 w hw))).mono ?_) (by simp only [List.set_cons_succ, List.set_cons_zero]; rfl) ?_
  · rintro e w' ⟨rfl, hb⟩
    exact ⟨rfl, hb⟩
  refine relPure Ext.refl rfl rfl rfl rfl (c := .bool true) (fun w _ => by go_simp; first | done | rfl) (by simp only [List.set_cons_succ, List.set_cons_zero]; rfl) ?_
  refine relPick Ext.refl rfl rfl rfl rfl _ _ _ rfl rfl (by conv => lhs; whnf) (by simp only [List.set_cons_succ, List.set_cons_zero]; rfl) ?_
  refine relMove Ext.refl rfl rfl rfl rfl _ (.inl rfl) (by conv => lhs; whnf) (by simp only [List.set_cons_succ, List.set_cons_zero]; rfl) ?_
  refine relMove Ext.refl rfl rfl rfl rfl _ (.inl rfl) (by conv => lhs; whnf) (by simp only [List.set_cons_succ, List.set_cons_zero]; rfl) ?_
  refine relPure Ext.refl rfl rfl rfl rfl (c := .int .i64 4) (fun w _ => by go_simp; first | done | rfl) (by simp only [List.set_cons_succ, List.set_cons_zero]; rfl) ?_
  refine relCall1 rfl rfl rfl rfl (c := .int .i64 2) 12 #[.int .i64 4] (fun w => by go_simp) (fun w hw => (HH2.out w).mono ?_) (by simp only [List.set_cons_succ, List.set_cons_zero]; rfl) ?_
  · rintro e w' ⟨rfl, rfl⟩
    exact ⟨rfl, Ext.refl _⟩
  refine relMove Ext.refl rfl rfl rfl rfl _ (.inl rfl) (by conv => lhs; whnf) (by simp only [List.set_cons_succ, List.set_cons_zero]; rfl) ?_
  refine relCall1 rfl rfl rfl rfl (c := .int .i64 1) 12 #[.int .i64 2] (fun w => by go_simp) (fun w hw => (HH1.out w).mono ?_) (by simp only [List.set_cons_succ, List.set_cons_zero]; rfl) ?_
  · rintro e w' ⟨rfl, rfl⟩
    exact ⟨rfl, Ext.refl _⟩
  refine relPure Ext.refl rfl rfl rfl rfl (c := .int .i64 2) (fun w _ => by go_simp; first | done | rfl) (by simp only [List.set_cons_succ, List.set_cons_zero]; rfl) ?_
  refine relPure Ext.refl rfl rfl rfl rfl (c := .bool true) (fun w _ => by go_simp; first | done | rfl) (by simp only [List.set_cons_succ, List.set_cons_zero]; rfl) ?_
  refine relPick Ext.refl rfl rfl rfl rfl _ _ _ rfl rfl (by conv => lhs; whnf) (by simp only [List.set_cons_succ, List.set_cons_zero]; rfl) ?_
  refine relMove Ext.refl rfl rfl rfl rfl _ (.inl rfl) (by conv => lhs; whnf) (by simp only [List.set_cons_succ, List.set_cons_zero]; rfl) ?_
  refine relMove Ext.refl rfl rfl rfl rfl _ (.inl rfl) (by conv => lhs; whnf) (by simp only [List.set_cons_succ, List.set_cons_zero]; rfl) ?_
  refine relPure Ext.refl rfl rfl rfl rfl (c := .int .i64 4) (fun w _ => by go_simp; first | done | rfl) (by simp only [List.set_cons_succ, List.set_cons_zero]; rfl) ?_
  refine relCall1 rfl rfl rfl rfl (c := .int .i64 2) 13 #[.int .i64 4, .int .i64 1] (fun w => by go_simp) (fun w hw => (HW.out w).mono ?_) (by simp only [List.set_cons_succ, List.set_cons_zero]; rfl) ?_
  · rintro e w' ⟨rfl, rfl⟩
    exact ⟨rfl, Ext.refl _⟩
  refine relMove Ext.refl rfl rfl rfl rfl _ (.inl rfl) (by conv => lhs; whnf) (by simp only [List.set_cons_succ, List.set_cons_zero]; rfl) ?_
  refine relPure Ext.refl rfl rfl rfl rfl (c := .bool true) (fun w _ => by go_simp; first | done | rfl) (by simp only [List.set_cons_succ, List.set_cons_zero]; rfl) ?_
  refine relPick Ext.refl rfl rfl rfl rfl _ _ _ rfl rfl (by conv => lhs; whnf) (by simp only [List.set_cons_succ, List.set_cons_zero]; rfl) ?_
  refine relEnd fun w10 hw10 => fill_end ?_
  simp only [List.drop_succ_cons, List.drop_zero]
  go_wp2
  go_ret
  exact ⟨rfl, H1 w10 hw10⟩

set_option maxRecDepth 10000 in
set_option maxHeartbeats 2000000 in
theorem halves_4 (h : Int) (hk : bits .and .i64 h 3 = 2) (l : List (List UInt8)) (h32 : All32 l) (n : Nat) (hn : l.length = n) (hnl : 8 ≤ n) (A : Option Addr) (c : Nat) (hc : n ≤ c) (w : World) (hr : Rd w A (hcl l)) (ht : Tabs w) :
    Calls Tryd.prog 4 #[.slice A n c, .int .i64 h] w fun e w' => e = .returned (.bool true) ∧ Below w.heap.size w w' := by
  have hz := zeros_32
  have hzl : (List.replicate 32 (0 : UInt8)).length = 32 := by simp
  obtain ⟨zs, hzs⟩ : ∃ zs : List UInt8, zs = List.replicate 32 0 := ⟨_, rfl⟩
  rw [← hzs] at hz hzl
  clear hzs
  replace hzl := Lib.hid hzl
  obtain ⟨x, hx⟩ : ∃ x, x = l.take 4 := ⟨_, rfl⟩
  obtain ⟨y, hy⟩ : ∃ y, y = (l.take 8).drop 4 := ⟨_, rfl⟩
  have hxy : x ++ y = l.take 8 := by
    have e := List.take_append_drop 4 (l.take 8)
    rw [List.take_take, show min 4 8 = 4 by decide] at e
    rw [hx, hy]
    exact e
  have hx32 : All32 x := by rw [hx]; exact h32.take _
  have hy32 : All32 y := by rw [hy]; exact (h32.take _).drop _
  have hxl : x.length = 4 := by rw [hx, List.length_take]; omega
  have hyl : y.length = 4 := by rw [hy, List.length_drop, List.length_take]; omega
  have hm32 : All32 (x ++ y) := hx32.append hy32
  have rm : Rd w A (hcl (x ++ y)) := by rw [hxy, hcl_take h32 _ (by omega)]; exact hr.take _
  have rx : Rd w A (hcl x) := by rw [hx, hcl_take h32 _ (by omega)]; exact hr.take _
  have ry : Rd w (subA A c 4 32) (hcl y) := by
    have h1 := rm.sub c 4 32 (by rw [hcl_length hm32, List.length_append, hxl, hyl]; omega)
    rw [hcl_append, show 4 * 32 = (hcl x).length by rw [hcl_length hx32, hxl], List.drop_left'] at h1
    · exact h1
    · rfl
  obtain ⟨B, hB⟩ : ∃ B, subA A c 4 32 = B := ⟨_, rfl⟩
  rw [hB] at ry
  have hroot := mRoot_halves 2 (by omega) x y hxl hyl
  have R1 := Root x hx32
  have R2 := Root y hy32
  have R3 := Root (x ++ y) hm32
  have hr1 := mRoot_length x hx32
  have hr2 := mRoot_length y hy32
  have hr3 := mRoot_length (x ++ y) hm32
  generalize mAlike (mLv x) = x1 at R1
  generalize mAlike (mLv y) = x2 at R2
  generalize mAlike (mLv (x ++ y)) = x3 at R3
  generalize mRootOf (mLv x) = a at *
  generalize mRootOf (mLv y) = b at *
  generalize mRootOf (mLv (x ++ y)) = r at *
  have PP := Lib.hid (fun w ht => Pair a b hr1 hr2 w ht)
  rw [← hroot] at PP
  clear hroot
  have heq : ∀ w, (binOp .eql 25 (.agg (hcs r)) (.agg (hcs r))).run Tryd.prog w = .ok (.bool true) w := fun w => by
    rw [eqlH r r hr3 hr3, beq_self_eq_true]
  replace hr1 := Lib.hid hr1
  replace hr2 := Lib.hid hr2
  replace hr3 := Lib.hid hr3
  replace R1 := Lib.hid R1
  replace R2 := Lib.hid R2
  replace R3 := Lib.hid R3
  have HA := Lib.hid (awake10 w ht)
  have t1 : decide ((n : Int) < 8) = false := by simp; omega
  have t2 : (8 : Int) ≤ (c : Int) := by omega
  have t3 : (4 : Int) ≤ (c : Int) := by omega
  have hml : (x ++ y).length = 8 := by rw [List.length_append, hxl, hyl]
  replace hxl := Lib.hid hxl
  replace hyl := Lib.hid hyl
  replace hml := Lib.hid hml
  replace hn := Lib.hid hn
  clear hx hy hxy hr h32
  obtain ⟨c2, hc2⟩ : ∃ c2, c - 4 = c2 := ⟨_, rfl⟩
  have HH2 := Lib.hid (Height 8 3 (by omega) (by
    intro j hj
    rcases (show j = 0 ∨ j = 1 ∨ j = 2 by omega) with rfl | rfl | rfl <;> decide) (by decide))
  have HH1 := Lib.hid (Height 4 2 (by omega) (by
    intro j hj
    rcases (show j = 0 ∨ j = 1 by omega) with rfl | rfl <;> decide) (by decide))
  have HW := Lib.hid (fun w => Width 8 1 w)
  rw [show mWidth 8 1 = 4 by decide] at HW
  go_enter Tryd.func4, Tryd.ntmps4
  go_wp2_with (go_at_call 9; refine (HA.out).mono ?_; rintro e w1 ⟨rfl, b1⟩)
  refine (R1.out A 4 c hxl.out (by omega) w1 (rx.below b1) (ht.below b1)).mono ?_
  rintro e w2 ⟨rfl, b2⟩
  replace b2 := b1.trans (b2.mono b1.size)
  clear b1
  go_upto_region 7 with (refine wpList_storeAv (b2.alloc b2.size _) (heap_alloc_new _ _) b2.size rfl _ _ _ rfl rfl (a.map bv) rfl 32 (by rw [List.length_map, hr1.out]) (by kernel_rfl) (by rw [List.size_toArray, List.length_map]; exact hzl.out) (by simp [Value.oneCell']) ?_; intro w3 a3 b3 kw3 sw3; replace sw3 := Lib.hid sw3)
  clear kw3
  go_wp2_with fail
  refine (R2.out B 4 c2 hyl.out (by omega) w3 (ry.below b3) (ht.below b3)).mono ?_
  rintro e w4 ⟨rfl, b4⟩
  replace a3 := a3.below b4
  replace b4 := b3.trans (b4.mono b3.size)
  go_upto_region 8 with (refine wpList_storeAv (b4.alloc b4.size _) (heap_alloc_new _ _) b4.size rfl _ _ _ rfl rfl (b.map bv) rfl 32 (by rw [List.length_map, hr2.out]) (by kernel_rfl) (by rw [List.size_toArray, List.length_map]; exact hzl.out) (by simp [Value.oneCell']) ?_; intro w5 a4 b5 kw5 sw5; replace sw5 := Lib.hid sw5)
  replace a3 := (a3.alloc (.cells (zs.map bv).toArray 25)).same (kw5 _ (Nat.ne_of_lt a3.lt))
  clear kw5 b3 b4
  go_wp2_with fail
  refine (R3.out A 8 c hml.out (by omega) w5 (rm.below b5) (ht.below b5)).mono ?_
  rintro e w6 ⟨rfl, b6⟩
  replace a3 := a3.below b6
  replace a4 := a4.below b6
  replace b6 := b5.trans (b6.mono b5.size)
  go_upto_region 9 with (refine wpList_storeAv (b6.alloc b6.size _) (heap_alloc_new _ _) b6.size rfl _ _ _ rfl rfl (r.map bv) rfl 32 (by rw [List.length_map, hr3.out]) (by kernel_rfl) (by rw [List.size_toArray, List.length_map]; exact hzl.out) (by simp [Value.oneCell']) ?_; intro w7 a6 b7 kw7 sw7; replace sw7 := Lib.hid sw7)
  replace a3 := (a3.alloc (.cells (zs.map bv).toArray 25)).same (kw7 _ (Nat.ne_of_lt a3.lt))
  replace a4 := (a4.alloc (.cells (zs.map bv).toArray 25)).same (kw7 _ (Nat.ne_of_lt a4.lt))
  clear kw7 b6 b5
  have H1 : ∀ w', Ext w7.drew w' → Below w.heap.size w w' := fun w' hE => b7.trans (hE.drew.mono b7.size)
  refine wp_region_relT 24 [] Ext (by kernel_rfl) (by kernel_rfl) (by kernel_rfl) (by kernel_rfl) (by kernel_rfl) Ext.refl Ext.trans (by intro p hp; cases hp) ?_
  refine relMove Ext.refl rfl rfl rfl rfl _ (.inl rfl) (by conv => lhs; whnf) (by simp only [List.set_cons_succ, List.set_cons_zero]; rfl) ?_
  refine relMove Ext.refl rfl rfl rfl rfl _ (.inl rfl) (by conv => lhs; whnf) (by simp only [List.set_cons_succ, List.set_cons_zero]; rfl) ?_
  refine relPure Ext.refl rfl rfl rfl rfl (c := .agg (r.map bv).toArray) (fun w hw => exec_loadAv (a6.below hw.drew) _ _ rfl rfl _ 32 (by rw [List.length_map, hr3.out]) Tryd.underlying25 rfl (by kernel_rfl)) (by simp only [List.set_cons_succ, List.set_cons_zero]; rfl) ?_
  refine relPure Ext.refl rfl rfl rfl rfl (c := .agg (a.map bv).toArray) (fun w hw => exec_loadAv (a3.below hw.drew) _ _ rfl rfl _ 32 (by rw [List.length_map, hr1.out]) Tryd.underlying25 rfl (by kernel_rfl)) (by simp only [List.set_cons_succ, List.set_cons_zero]; rfl) ?_
  refine relPure Ext.refl rfl rfl rfl rfl (c := .agg (b.map bv).toArray) (fun w hw => exec_loadAv (a4.below hw.drew) _ _ rfl rfl _ 32 (by rw [List.length_map, hr2.out]) Tryd.underlying25 rfl (by kernel_rfl)) (by simp only [List.set_cons_succ, List.set_cons_zero]; rfl) ?_
  refine relCall1 rfl rfl rfl rfl (c := .agg (hcs r)) 11 #[.agg (hcs a), .agg (hcs b)] (fun w => by go_simp) (fun w hw => (PP.out w (ht.below (H1 w hw))).mono ?_) (by simp only [List.set_cons_succ, List.set_cons_zero]; rfl) ?_
  · rintro e w' ⟨rfl, hb⟩
    exact ⟨rfl, hb⟩
  refine relPure Ext.refl rfl rfl rfl rfl (c := .bool true) (fun w _ => by go_simp; first | done | rfl) (by simp only [List.set_cons_succ, List.set_cons_zero]; rfl) ?_
  refine relPick Ext.refl rfl rfl rfl rfl _ _ _ rfl rfl (by conv => lhs; whnf) (by simp only [List.set_cons_succ, List.set_cons_zero]; rfl) ?_
  refine relMove Ext.refl rfl rfl rfl rfl _ (.inl rfl) (by conv => lhs; whnf) (by simp only [List.set_cons_succ, List.set_cons_zero]; rfl) ?_
  refine relMove Ext.refl rfl rfl rfl rfl _ (.inl rfl) (by conv => lhs; whnf) (by simp only [List.set_cons_succ, List.set_cons_zero]; rfl) ?_
  refine relPure Ext.refl rfl rfl rfl rfl (c := .int .i64 8) (fun w _ => by go_simp; first | done | rfl) (by simp only [List.set_cons_succ, List.set_cons_zero]; rfl) ?_
  refine relCall1 rfl rfl rfl rfl (c := .int .i64 3) 12 #[.int .i64 8] (fun w => by go_simp) (fun w hw => (HH2.out w).mono ?_) (by simp only [List.set_cons_succ, List.set_cons_zero]; rfl) ?_
  · rintro e w' ⟨rfl, rfl⟩
    exact ⟨rfl, Ext.refl _⟩
  refine relMove Ext.refl rfl rfl rfl rfl _ (.inl rfl) (by conv => lhs; whnf) (by simp only [List.set_cons_succ, List.set_cons_zero]; rfl) ?_
  refine relCall1 rfl rfl rfl rfl (c := .int .i64 2) 12 #[.int .i64 4] (fun w => by go_simp) (fun w hw => (HH1.out w).mono ?_) (by simp only [List.set_cons_succ, List.set_cons_zero]; rfl) ?_
  · rintro e w' ⟨rfl, rfl⟩
    exact ⟨rfl, Ext.refl _⟩
  refine relPure Ext.refl rfl rfl rfl rfl (c := .int .i64 3) (fun w _ => by go_simp; first | done | rfl) (by simp only [List.set_cons_succ, List.set_cons_zero]; rfl) ?_
  refine relPure Ext.refl rfl rfl rfl rfl (c := .bool true) (fun w _ => by go_simp; first | done | rfl) (by simp only [List.set_cons_succ, List.set_cons_zero]; rfl) ?_
  refine relPick Ext.refl rfl rfl rfl rfl _ _ _ rfl rfl (by conv => lhs; whnf) (by simp only [List.set_cons_succ, List.set_cons_zero]; rfl) ?_
  refine relMove Ext.refl rfl rfl rfl rfl _ (.inl rfl) (by conv => lhs; whnf) (by simp only [List.set_cons_succ, List.set_cons_zero]; rfl) ?_
  refine relMove Ext.refl rfl rfl rfl rfl _ (.inl rfl) (by conv => lhs; whnf) (by simp only [List.set_cons_succ, List.set_cons_zero]; rfl) ?_
  refine relPure Ext.refl rfl rfl rfl rfl (c := .int .i64 8) (fun w _ => by go_simp; first | done | rfl) (by simp only [List.set_cons_succ, List.set_cons_zero]; rfl) ?_
  refine relCall1 rfl rfl rfl rfl (c := .int .i64 4) 13 #[.int .i64 8, .int .i64 1] (fun w => by go_simp) (fun w hw => (HW.out w).mono ?_) (by simp only [List.set_cons_succ, List.set_cons_zero]; rfl) ?_
  · rintro e w' ⟨rfl, rfl⟩
    exact ⟨rfl, Ext.refl _⟩
  refine relMove Ext.refl rfl rfl rfl rfl _ (.inl rfl) (by conv => lhs; whnf) (by simp only [List.set_cons_succ, List.set_cons_zero]; rfl) ?_
  refine relPure Ext.refl rfl rfl rfl rfl (c := .bool true) (fun w _ => by go_simp; first | done | rfl) (by simp only [List.set_cons_succ, List.set_cons_zero]; rfl) ?_
  refine relPick Ext.refl rfl rfl rfl rfl _ _ _ rfl rfl (by conv => lhs; whnf) (by simp only [List.set_cons_succ, List.set_cons_zero]; rfl) ?_
  refine relEnd fun w10 hw10 => fill_end ?_
  simp only [List.drop_succ_cons, List.drop_zero]
  go_wp2
  go_ret
  exact ⟨rfl, H1 w10 hw10⟩

set_option maxRecDepth 10000 in
set_option maxHeartbeats 2000000 in
theorem halves_8 (h : Int) (hk : bits .and .i64 h 3 = 3) (l : List (List UInt8)) (h32 : All32 l) (n : Nat) (hn : l.length = n) (hnl : 16 ≤ n) (A : Option Addr) (c : Nat) (hc : n ≤ c) (w : World) (hr : Rd w A (hcl l)) (ht : Tabs w) :
    Calls Tryd.prog 4 #[.slice A n c, .int .i64 h] w fun e w' => e = .returned (.bool true) ∧ Below w.heap.size w w' := by
  have hz := zeros_32
  have hzl : (List.replicate 32 (0 : UInt8)).length = 32 := by simp
  obtain ⟨zs, hzs⟩ : ∃ zs : List UInt8, zs = List.replicate 32 0 := ⟨_, rfl⟩
  rw [← hzs] at hz hzl
  clear hzs
  replace hzl := Lib.hid hzl
  obtain ⟨x, hx⟩ : ∃ x, x = l.take 8 := ⟨_, rfl⟩
  obtain ⟨y, hy⟩ : ∃ y, y = (l.take 16).drop 8 := ⟨_, rfl⟩
  have hxy : x ++ y = l.take 16 := by
    have e := List.take_append_drop 8 (l.take 16)
    rw [List.take_take, show min 8 16 = 8 by decide] at e
    rw [hx, hy]
    exact e
  have hx32 : All32 x := by rw [hx]; exact h32.take _
  have hy32 : All32 y := by rw [hy]; exact (h32.take _).drop _
  have hxl : x.length = 8 := by rw [hx, List.length_take]; omega
  have hyl : y.length = 8 := by rw [hy, List.length_drop, List.length_take]; omega
  have hm32 : All32 (x ++ y) := hx32.append hy32
  have rm : Rd w A (hcl (x ++ y)) := by rw [hxy, hcl_take h32 _ (by omega)]; exact hr.take _
  have rx : Rd w A (hcl x) := by rw [hx, hcl_take h32 _ (by omega)]; exact hr.take _
  have ry : Rd w (subA A c 8 32) (hcl y) := by
    have h1 := rm.sub c 8 32 (by rw [hcl_length hm32, List.length_append, hxl, hyl]; omega)
    rw [hcl_append, show 8 * 32 = (hcl x).length by rw [hcl_length hx32, hxl], List.drop_left'] at h1
    · exact h1
    · rfl
  obtain ⟨B, hB⟩ : ∃ B, subA A c 8 32 = B := ⟨_, rfl⟩
  rw [hB] at ry
  have hroot := mRoot_halves 3 (by omega) x y hxl hyl
  have R1 := Root x hx32
  have R2 := Root y hy32
  have R3 := Root (x ++ y) hm32
  have hr1 := mRoot_length x hx32
  have hr2 := mRoot_length y hy32
  have hr3 := mRoot_length (x ++ y) hm32
  generalize mAlike (mLv x) = x1 at R1
  generalize mAlike (mLv y) = x2 at R2
  generalize mAlike (mLv (x ++ y)) = x3 at R3
  generalize mRootOf (mLv x) = a at *
  generalize mRootOf (mLv y) = b at *
  generalize mRootOf (mLv (x ++ y)) = r at *
  have PP := Lib.hid (fun w ht => Pair a b hr1 hr2 w ht)
  rw [← hroot] at PP
  clear hroot
  have heq : ∀ w, (binOp .eql 25 (.agg (hcs r)) (.agg (hcs r))).run Tryd.prog w = .ok (.bool true) w := fun w => by
    rw [eqlH r r hr3 hr3, beq_self_eq_true]
  replace hr1 := Lib.hid hr1
  replace hr2 := Lib.hid hr2
  replace hr3 := Lib.hid hr3
  replace R1 := Lib.hid R1
  replace R2 := Lib.hid R2
  replace R3 := Lib.hid R3
  have HA := Lib.hid (awake10 w ht)
  have t1 : decide ((n : Int) < 16) = false := by simp; omega
  have t2 : (16 : Int) ≤ (c : Int) := by omega
  have t3 : (8 : Int) ≤ (c : Int) := by omega
  have hml : (x ++ y).length = 16 := by rw [List.length_append, hxl, hyl]
  replace hxl := Lib.hid hxl
  replace hyl := Lib.hid hyl
  replace hml := Lib.hid hml
  replace hn := Lib.hid hn
  clear hx hy hxy hr h32
  obtain ⟨c2, hc2⟩ : ∃ c2, c - 8 = c2 := ⟨_, rfl⟩
  have HH2 := Lib.hid (Height 16 4 (by omega) (by
    intro j hj
    rcases (show j = 0 ∨ j = 1 ∨ j = 2 ∨ j = 3 by omega) with rfl | rfl | rfl | rfl <;> decide) (by decide))
  have HH1 := Lib.hid (Height 8 3 (by omega) (by
    intro j hj
    rcases (show j = 0 ∨ j = 1 ∨ j = 2 by omega) with rfl | rfl | rfl <;> decide) (by decide))
  have HW := Lib.hid (fun w => Width 16 1 w)
  rw [show mWidth 16 1 = 8 by decide] at HW
  go_enter Tryd.func4, Tryd.ntmps4
  go_wp2_with (go_at_call 9; refine (HA.out).mono ?_; rintro e w1 ⟨rfl, b1⟩)
  refine (R1.out A 8 c hxl.out (by omega) w1 (rx.below b1) (ht.below b1)).mono ?_
  rintro e w2 ⟨rfl, b2⟩
  replace b2 := b1.trans (b2.mono b1.size)
  clear b1
  go_upto_region 7 with (refine wpList_storeAv (b2.alloc b2.size _) (heap_alloc_new _ _) b2.size rfl _ _ _ rfl rfl (a.map bv) rfl 32 (by rw [List.length_map, hr1.out]) (by kernel_rfl) (by rw [List.size_toArray, List.length_map]; exact hzl.out) (by simp [Value.oneCell']) ?_; intro w3 a3 b3 kw3 sw3; replace sw3 := Lib.hid sw3)
  clear kw3
  go_wp2_with fail
  refine (R2.out B 8 c2 hyl.out (by omega) w3 (ry.below b3) (ht.below b3)).mono ?_
  rintro e w4 ⟨rfl, b4⟩
  replace a3 := a3.below b4
  replace b4 := b3.trans (b4.mono b3.size)
  go_upto_region 8 with (refine wpList_storeAv (b4.alloc b4.size _) (heap_alloc_new _ _) b4.size rfl _ _ _ rfl rfl (b.map bv) rfl 32 (by rw [List.length_map, hr2.out]) (by kernel_rfl) (by rw [List.size_toArray, List.length_map]; exact hzl.out) (by simp [Value.oneCell']) ?_; intro w5 a4 b5 kw5 sw5; replace sw5 := Lib.hid sw5)
  replace a3 := (a3.alloc (.cells (zs.map bv).toArray 25)).same (kw5 _ (Nat.ne_of_lt a3.lt))
  clear kw5 b3 b4
  go_wp2_with fail
  refine (R3.out A 16 c hml.out (by omega) w5 (rm.below b5) (ht.below b5)).mono ?_
  rintro e w6 ⟨rfl, b6⟩
  replace a3 := a3.below b6
  replace a4 := a4.below b6
  replace b6 := b5.trans (b6.mono b5.size)
  go_upto_region 9 with (refine wpList_storeAv (b6.alloc b6.size _) (heap_alloc_new _ _) b6.size rfl _ _ _ rfl rfl (r.map bv) rfl 32 (by rw [List.length_map, hr3.out]) (by kernel_rfl) (by rw [List.size_toArray, List.length_map]; exact hzl.out) (by simp [Value.oneCell']) ?_; intro w7 a6 b7 kw7 sw7; replace sw7 := Lib.hid sw7)
  replace a3 := (a3.alloc (.cells (zs.map bv).toArray 25)).same (kw7 _ (Nat.ne_of_lt a3.lt))
  replace a4 := (a4.alloc (.cells (zs.map bv).toArray 25)).same (kw7 _ (Nat.ne_of_lt a4.lt))
  clear kw7 b6 b5
  have H1 : ∀ w', Ext w7.drew w' → Below w.heap.size w w' := fun w' hE => b7.trans (hE.drew.mono b7.size)
  refine wp_region_relT 24 [] Ext (by kernel_rfl) (by kernel_rfl) (by kernel_rfl) (by kernel_rfl) (by kernel_rfl) Ext.refl Ext.trans (by intro p hp; cases hp) ?_
  refine relMove Ext.refl rfl rfl rfl rfl _ (.inl rfl) (by conv => lhs; whnf) (by simp only [List.set_cons_succ, List.set_cons_zero]; rfl) ?_
  refine relMove Ext.refl rfl rfl rfl rfl _ (.inl rfl) (by conv => lhs; whnf) (by simp only [List.set_cons_succ, List.set_cons_zero]; rfl) ?_
  refine relPure Ext.refl rfl rfl rfl rfl (c := .agg (r.map bv).toArray) (fun w hw => exec_loadAv (a6.below hw.drew) _ _ rfl rfl _ 32 (by rw [List.length_map, hr3.out]) Tryd.underlying25 rfl (by kernel_rfl)) (by simp only [List.set_cons_succ, List.set_cons_zero]; rfl) ?_
  refine relPure Ext.refl rfl rfl rfl rfl (c := .agg (a.map bv).toArray) (fun w hw => exec_loadAv (a3.below hw.drew) _ _ rfl rfl _ 32 (by rw [List.length_map, hr1.out]) Tryd.underlying25 rfl (by kernel_rfl)) (by simp only [List.set_cons_succ, List.set_cons_zero]; rfl) ?_
  refine relPure Ext.refl rfl rfl rfl rfl (c := .agg (b.map bv).toArray) (fun w hw => exec_loadAv (a4.below hw.drew) _ _ rfl rfl _ 32 (by rw [List.length_map, hr2.out]) Tryd.underlying25 rfl (by kernel_rfl)) (by simp only [List.set_cons_succ, List.set_cons_zero]; rfl) ?_
  refine relCall1 rfl rfl rfl rfl (c := .agg (hcs r)) 11 #[.agg (hcs a), .agg (hcs b)] (fun w => by go_simp) (fun w hw => (PP.out w (ht.below (H1 w hw))).mono ?_) (by simp only [List.set_cons_succ, List.set_cons_zero]; rfl) ?_
  · rintro e w' ⟨rfl, hb⟩
    exact ⟨rfl, hb⟩
  refine relPure Ext.refl rfl rfl rfl rfl (c := .bool true) (fun w _ => by go_simp; first | done | rfl) (by simp only [List.set_cons_succ, List.set_cons_zero]; rfl) ?_
  refine relPick Ext.refl rfl rfl rfl rfl _ _ _ rfl rfl (by conv => lhs; whnf) (by simp only [List.set_cons_succ, List.set_cons_zero]; rfl) ?_
  refine relMove Ext.refl rfl rfl rfl rfl _ (.inl rfl) (by conv => lhs; whnf) (by simp only [List.set_cons_succ, List.set_cons_zero]; rfl) ?_
  refine relMove Ext.refl rfl rfl rfl rfl _ (.inl rfl) (by conv => lhs; whnf) (by simp only [List.set_cons_succ, List.set_cons_zero]; rfl) ?_
  refine relPure Ext.refl rfl rfl rfl rfl (c := .int .i64 16) (fun w _ => by go_simp; first | done | rfl) (by simp only [List.set_cons_succ, List.set_cons_zero]; rfl) ?_
  refine relCall1 rfl rfl rfl rfl (c := .int .i64 4) 12 #[.int .i64 16] (fun w => by go_simp) (fun w hw => (HH2.out w).mono ?_) (by simp only [List.set_cons_succ, List.set_cons_zero]; rfl) ?_
  · rintro e w' ⟨rfl, rfl⟩
    exact ⟨rfl, Ext.refl _⟩
  refine relMove Ext.refl rfl rfl rfl rfl _ (.inl rfl) (by conv => lhs; whnf) (by simp only [List.set_cons_succ, List.set_cons_zero]; rfl) ?_
  refine relCall1 rfl rfl rfl rfl (c := .int .i64 3) 12 #[.int .i64 8] (fun w => by go_simp) (fun w hw => (HH1.out w).mono ?_) (by simp only [List.set_cons_succ, List.set_cons_zero]; rfl) ?_
  · rintro e w' ⟨rfl, rfl⟩
    exact ⟨rfl, Ext.refl _⟩
  refine relPure Ext.refl rfl rfl rfl rfl (c := .int .i64 4) (fun w _ => by go_simp; first | done | rfl) (by simp only [List.set_cons_succ, List.set_cons_zero]; rfl) ?_
  refine relPure Ext.refl rfl rfl rfl rfl (c := .bool true) (fun w _ => by go_simp; first | done | rfl) (by simp only [List.set_cons_succ, List.set_cons_zero]; rfl) ?_
  refine relPick Ext.refl rfl rfl rfl rfl _ _ _ rfl rfl (by conv => lhs; whnf) (by simp only [List.set_cons_succ, List.set_cons_zero]; rfl) ?_
  refine relMove Ext.refl rfl rfl rfl rfl _ (.inl rfl) (by conv => lhs; whnf) (by simp only [List.set_cons_succ, List.set_cons_zero]; rfl) ?_
  refine relMove Ext.refl rfl rfl rfl rfl _ (.inl rfl) (by conv => lhs; whnf) (by simp only [List.set_cons_succ, List.set_cons_zero]; rfl) ?_
  refine relPure Ext.refl rfl rfl rfl rfl (c := .int .i64 16) (fun w _ => by go_simp; first | done | rfl) (by simp only [List.set_cons_succ, List.set_cons_zero]; rfl) ?_
  refine relCall1 rfl rfl rfl rfl (c := .int .i64 8) 13 #[.int .i64 16, .int .i64 1] (fun w => by go_simp) (fun w hw => (HW.out w).mono ?_) (by simp only [List.set_cons_succ, List.set_cons_zero]; rfl) ?_
  · rintro e w' ⟨rfl, rfl⟩
    exact ⟨rfl, Ext.refl _⟩
  refine relMove Ext.refl rfl rfl rfl rfl _ (.inl rfl) (by conv => lhs; whnf) (by simp only [List.set_cons_succ, List.set_cons_zero]; rfl) ?_
  refine relPure Ext.refl rfl rfl rfl rfl (c := .bool true) (fun w _ => by go_simp; first | done | rfl) (by simp only [List.set_cons_succ, List.set_cons_zero]; rfl) ?_
  refine relPick Ext.refl rfl rfl rfl rfl _ _ _ rfl rfl (by conv => lhs; whnf) (by simp only [List.set_cons_succ, List.set_cons_zero]; rfl) ?_
  refine relEnd fun w10 hw10 => fill_end ?_
  simp only [List.drop_succ_cons, List.drop_zero]
  go_wp2
  go_ret
  exact ⟨rfl, H1 w10 hw10⟩
end Go.Proofs.YtngindljhlbglaaDoor
