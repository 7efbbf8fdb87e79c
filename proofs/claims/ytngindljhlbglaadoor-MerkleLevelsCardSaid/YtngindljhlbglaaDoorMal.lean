/- florinlaw10.MerkleAlike: the walk. -/
import Derived.Test.YtngindljhlbglaaDoorMhv
namespace Go.Proofs.YtngindljhlbglaaDoor
open Go.RowKit
attribute [local go_sem high] slH_l slH_h
theorem mAlike1_pair : ∀ (l : List (List UInt8)) (k : Nat), 2 * k + 1 < l.length → l.getD (2 * k) [] = l.getD (2 * k + 1) [] → mAlike1 l = true
  | [], k, h, _ => by simp at h
  | [_], k, h, _ => by simp at h
  | a :: b :: r, 0, _, e => by
    have e' : a = b := by simpa using e
    rw [mAlike1, e', beq_self_eq_true, Bool.true_or]
  | a :: b :: r, k + 1, h, e => by
    rw [show 2 * (k + 1) + 1 = 2 * k + 1 + 1 + 1 by omega, show 2 * (k + 1) = 2 * k + 1 + 1 by omega] at e
    simp only [List.getD_cons_succ] at e
    rw [mAlike1, mAlike1_pair r k (by simp at h; omega) e, Bool.or_true]
theorem alike_two (a b : List UInt8) : mAlike (mLv [a, b]) = (a == b) := by
  have : mLv [a, b] = [[a, b], [pairB a b]] := by simp [mLv, mLvF, mUp]
  rw [this]
  simp [mAlike, mAlike1]
theorem alike_small (l : List (List UInt8)) (h : l.length < 2) : mAlike (mLv l) = false := by
  match l, h with
  | [], _ => rfl
  | [a], _ =>
    have : mLv [a] = [[a]] := by simp [mLv, mLvF]
    rw [this]
    simp [mAlike, mAlike1]
theorem Rd_of_ranges (w : World) (g : Nat) (l : List (List UInt8)) (h32 : All32 l) (h : ∀ i, i < l.length → w.rangeAt g (i * 32) ((l.getD i []).map bv)) : Rd w (some ⟨g, 0, none⟩) (hcl l) := by
  refine .inr ⟨g, 0, rfl, fun j u hu => ?_⟩
  have hj : j < 32 * l.length := by
    have := (List.getElem?_eq_some_iff.1 hu).1
    rw [hcl_length h32] at this
    exact this
  have hg := hcl_get h32 (j / 32) (j % 32) (by omega) (by omega)
  rw [show 32 * (j / 32) + j % 32 = j by omega] at hg
  rw [hg] at hu
  have := h (j / 32) (by omega) (j % 32) u hu
  rw [show 0 + j = j / 32 * 32 + j % 32 by omega]
  exact this

set_option maxRecDepth 10000 in
set_option maxHeartbeats 1000000 in
theorem alike_early (l : List (List UInt8)) (h32 : All32 l) (n : Nat) (hn : l.length = n) (h : 60 < n ∨ n < 2) (A : Option Addr) (c : Nat) (i : Int) (w : World) (hr : Rd w A (hcl l)) (ht : Tabs w) :
    Calls Tryd.prog 5 #[.slice A n c, .int .i64 i] w fun e w' => e = .returned (.bool true) ∧ Below w.heap.size w w' := by
  have hz := zeros_32
  have hzl : (List.replicate 32 (0 : UInt8)).length = 32 := by simp
  obtain ⟨zs, hzs⟩ : ∃ zs : List UInt8, zs = List.replicate 32 0 := ⟨_, rfl⟩
  rw [← hzs] at hz hzl
  clear hzs
  replace hzl := Lib.hid hzl
  have HA := Lib.hid (awake10 w ht)
  have R := RootAny l h32 A n c hn
  have hrl := mRoot_length l h32
  have hsm : n < 2 → mAlike (mLv l) = false := fun h2 => alike_small l (by omega)
  generalize mRootOf (mLv l) = r at *
  generalize mAlike (mLv l) = al at *
  replace R := Lib.hid R
  replace hrl := Lib.hid hrl
  by_cases h60 : 60 < n
  · have t1 : decide ((60 : Int) < (n : Int)) = true := by simp; omega
    go_enter Tryd.func5, Tryd.ntmps5
    go_wp2_with (go_at_call 9; refine (HA.out).mono ?_; rintro e w1 ⟨rfl, b1⟩)
    refine (R.out w1 (hr.below b1) (ht.below b1)).mono ?_
    rintro e w2 ⟨rfl, b2⟩
    replace b2 := b1.trans (b2.mono b1.size)
    go_wp2_with (refine wpList_storeAv (b2.alloc b2.size _) (heap_alloc_new _ _) b2.size rfl _ _ _ rfl rfl (r.map bv) rfl 32 (by rw [List.length_map, hrl.out]) (by kernel_rfl) (by rw [List.size_toArray, List.length_map]; exact hzl.out) (by simp [Value.oneCell']) ?_; intro w3 a3 b3 kw3 sw3; replace sw3 := Lib.hid sw3)
    go_ret
    exact ⟨rfl, b3⟩
  · have t1 : decide ((60 : Int) < (n : Int)) = false := by simp; omega
    have t2 : decide ((n : Int) < 2) = true := by simp; omega
    obtain rfl := hsm (by omega)
    go_enter Tryd.func5, Tryd.ntmps5
    go_wp2_with (go_at_call 9; refine (HA.out).mono ?_; rintro e w1 ⟨rfl, b1⟩)
    refine (R.out w1 (hr.below b1) (ht.below b1)).mono ?_
    rintro e w2 ⟨rfl, b2⟩
    replace b2 := b1.trans (b2.mono b1.size)
    go_wp2_with (refine wpList_storeAv (b2.alloc b2.size _) (heap_alloc_new _ _) b2.size rfl _ _ _ rfl rfl (r.map bv) rfl 32 (by rw [List.length_map, hrl.out]) (by kernel_rfl) (by rw [List.size_toArray, List.length_map]; exact hzl.out) (by simp [Value.oneCell']) ?_; intro w3 a3 b3 kw3 sw3; replace sw3 := Lib.hid sw3)
    go_ret
    exact ⟨rfl, b3⟩

set_option maxRecDepth 10000 in
set_option maxHeartbeats 2000000 in
theorem alike_ok (l : List (List UInt8)) (h32 : All32 l) (n : Nat) (hn : l.length = n) (h2 : 2 ≤ n) (h60 : n ≤ 60) (A : Option Addr) (c : Nat) (hc : n ≤ c) (i : Int) (q : Nat) (hq : bits .and .i64 i 65535 = (q : Int)) (w : World) (hr : Rd w A (hcl l)) (ht : Tabs w) :
    Calls Tryd.prog 5 #[.slice A n c, .int .i64 i] w fun e w' => e = .returned (.bool true) ∧ Below w.heap.size w w' := by
  have hz := zeros_32
  have hzl : (List.replicate 32 (0 : UInt8)).length = 32 := by simp
  obtain ⟨zs, hzs⟩ : ∃ zs : List UInt8, zs = List.replicate 32 0 := ⟨_, rfl⟩
  rw [← hzs] at hz hzl
  clear hzs
  replace hzl := Lib.hid hzl
  have HA := Lib.hid (awake10 w ht)
  obtain ⟨bb, off, rfl⟩ := hr.someA (hcl_ne h32 (by omega))
  obtain ⟨m, hm⟩ : ∃ m, m = n / 2 := ⟨_, rfl⟩
  obtain ⟨k, hk⟩ : ∃ k, k = q % m := ⟨_, rfl⟩
  have hm0 : 0 < m := by omega
  have hkm : k < m := by rw [hk]; exact Nat.mod_lt _ hm0
  have hkn : 2 * k + 1 < n := by omega
  have t1 : decide ((60 : Int) < (n : Int)) = false := by simp; omega
  have t2 : decide ((n : Int) < 2) = false := by simp; omega
  have d1 : (n : Int) / 2 = (m : Int) := by omega
  have d2 : ((m : Int) == 0) = false := by simp; omega
  have d3 : (q : Int) % (m : Int) = (k : Int) := by rw [hk]; simp
  have d4 : (m : Int) ≠ 0 := by omega
  have e1 : IntKind.i64.wrap (2 * (k : Int)) = 2 * (k : Int) := by rw [IntKind.wrap_i64]; omega
  have e2 : IntKind.i64.wrap (2 * (k : Int) + 1) = 2 * (k : Int) + 1 := by rw [IntKind.wrap_i64]; omega
  have n0 : 0 ≤ 2 * (k : Int) := by omega
  have n1 : 2 * (k : Int) < (n : Int) := by omega
  have n2 : 0 ≤ 2 * (k : Int) + 1 := by omega
  have n3 : 2 * (k : Int) + 1 < (n : Int) := by omega
  have n4 : (2 * (k : Int)).toNat = 2 * k := by omega
  have n5 : (2 * (k : Int) + 1).toNat = 2 * k + 1 := by omega
  obtain ⟨x, hx⟩ : ∃ x, x = l.getD (2 * k) [] := ⟨_, rfl⟩
  obtain ⟨y0, hy0⟩ : ∃ y, y = l.getD 0 [] := ⟨_, rfl⟩
  obtain ⟨y1, hy1⟩ : ∃ y, y = l.getD 1 [] := ⟨_, rfl⟩
  have hx32 : x.length = 32 := by rw [hx]; exact h32.get _ (by omega)
  have hy032 : y0.length = 32 := by rw [hy0]; exact h32.get _ (by omega)
  have hy132 : y1.length = 32 := by rw [hy1]; exact h32.get _ (by omega)
  obtain ⟨l2, hl2⟩ : ∃ l2, l2 = l.set (2 * k + 1) x := ⟨_, rfl⟩
  have hl2n : l2.length = n := by rw [hl2, List.length_set, hn]
  have hl2g : ∀ j, j < n → l2.getD j [] = if j = 2 * k + 1 then x else l.getD j [] := fun j hj => by
    rw [hl2, List.getD_eq_getElem?_getD, List.getElem?_set, List.getD_eq_getElem?_getD]
    by_cases e : 2 * k + 1 = j
    · rw [if_pos e, if_pos e.symm, if_pos (by omega)]; rfl
    · rw [if_neg e, if_neg (Ne.symm e)]
  have h232 : All32 l2 := fun z hz => by
    obtain ⟨j, hj, rfl⟩ := List.getElem_of_mem hz
    have := hl2g j (by omega)
    rw [List.getD_eq_getElem?_getD, List.getElem?_eq_getElem hj] at this
    rw [show l2[j] = _ from this]
    split
    · exact hx32
    · exact h32.get _ (by omega)
  have hal : mAlike (mLv l2) = true := by
    rw [mLv_cons l2 (by omega) (by omega), mAlike, List.any_cons, mAlike1_pair l2 k (by omega) (by rw [hl2g _ (by omega), hl2g _ (by omega), if_neg (by omega), if_pos rfl, ← hx]), Bool.true_or]
  have hl01 : l.take 2 = [y0, y1] := by
    rw [hy0, hy1]
    match l, hn with
    | [], hn => simp at hn; omega
    | [_], hn => simp at hn; omega
    | a :: b :: r, _ => rfl
  have h0132 : All32 [y0, y1] := by rw [← hl01]; exact h32.take 2
  have r01 : Rd w (some ⟨bb, off, none⟩) (hcl [y0, y1]) := by rw [← hl01, hcl_take h32 _ (by omega)]; exact hr.take _
  have R2 := RootAny l2 h232
  have R3 := RootAny [y0, y1] h0132
  have p2 := mRoot_length l2 h232
  have p3 := mRoot_length [y0, y1] h0132
  rw [hal] at R2
  rw [alike_two] at R3
  have heq : ∀ w, (binOp .eql 25 (.agg (hcs y0)) (.agg (hcs y1))).run Tryd.prog w = .ok (.bool (y0 == y1)) w := fun w => eqlH y0 y1 hy032 hy132 w
  generalize mRootOf (mLv l2) = ra at *
  generalize mRootOf (mLv [y0, y1]) = rb at *
  generalize (y0 == y1) = one at *
  clear hal
  have hr0 := Lib.hid (fun w' (hE : Below w.heap.size w w') => hy0 ▸ (hr.below hE).hash h32 0 (by omega))
  have hr1 := Lib.hid (fun w' (hE : Below w.heap.size w w') => hy1 ▸ (hr.below hE).hash h32 1 (by omega))
  rw [Nat.zero_mul, Nat.add_zero] at hr0
  rw [Nat.one_mul] at hr1
  replace R2 := Lib.hid R2
  replace R3 := Lib.hid R3
  replace p2 := Lib.hid p2
  replace p3 := Lib.hid p3
  replace hn := Lib.hid hn
  replace hx := Lib.hid hx
  replace hl2 := Lib.hid hl2
  replace hl2n := Lib.hid hl2n
  replace hl2g := Lib.hid hl2g
  clear hy0 hy1 hl01 hm hk
  have u1 : (2 : Int) ≤ (c : Int) := by omega
  have hle1 : (0 + n) * 32 ≤ 140737488355328 := by omega
  go_enter Tryd.func5, Tryd.ntmps5
  go_upto_region 6 with (go_at_call 9; refine (HA.out).mono ?_; rintro e w1 ⟨rfl, b1⟩)
  have hmade : (w1.alloc (.cells #[] 25)).ownsRow w1.heap.size 25 32 (.slice (some ⟨w1.heap.size, 0, none⟩) 0 0) 0 (hcl []) := World.ownsRow_made w1 #[] 0 (Nat.le_refl _) (by simp [maxLen]) rfl
  have hb2 := (Below.refl w1.heap.size w1).alloc (Nat.le_refl _) (.cells #[] 25)
  have hr2 := (hr.below b1).below hb2
  go_upto_region 7 with (at_builtin; refine wpList_appH hmade hb2 hb2.size h32 n c hr2 hn.out hle1 rfl (.tmp 44) (.tmp 45) rfl rfl rfl ?_; intro v3 w3 own3 bo3 z3 _ _)
  rw [List.nil_append, Nat.zero_add] at own3
  have b3 := b1.trans (bo3.mono b1.size)
  obtain ⟨g, cap, cur, rfl, hgb, hgh, hgc, hgm, _⟩ : ∃ g cap cur, v3 = .slice (some ⟨g, 0, none⟩) n cap ∧ w1.heap.size ≤ g ∧ w3.heap[g]? = some (.cells cur 25 (0, 0)) ∧ n ≤ cap ∧ cap ≤ maxLen ∧ True := by
    rcases own3.2 with ⟨_, h0⟩ | ⟨g, cap, cur, e, a1, a2, a3, a4, _⟩
    · omega
    · exact ⟨g, cap, cur, e, a1, a2, a3, a4, trivial⟩
  have hrd := own_rd own3
  have hrg : ∀ j, j < n → w3.rangeAt g (j * 32) ((l.getD j []).map bv) := fun j hj => by
    have := hrd.hash h32 j (by rw [hn.out]; exact hj)
    rwa [Nat.zero_add] at this
  have hgx := hrg (2 * k) (by omega)
  rw [← hx.out] at hgx
  have hgo := hrg (2 * k + 1) hkn
  have hol : ((l.getD (2 * k + 1) []).map bv).length = 32 := by rw [List.length_map]; exact h32.get _ (by rw [hn.out]; exact hkn)
  have hth : w3.there g ((2 * k + 1) * 32) 32 := fun j hj => ⟨hgo.isSome j (by omega), frozen_of_row w3 g ((2 * k + 1) * 32 + j) cur 25 hgh⟩
  have hth2 : w3.there g ((2 * k + 1) * 32) (x.map bv).length := by rw [List.length_map, hx32]; exact hth
  have hrg2 : Rd (w3.setCells g ((2 * k + 1) * 32) (x.map bv)) (some ⟨g, 0, none⟩) (hcl l2) := by
    refine Rd_of_ranges _ g l2 h232 fun j hj => ?_
    rw [hl2n.out] at hj
    rw [hl2g.out j hj]
    split
    · rename_i e
      rw [e]
      exact World.rangeAt_setCells_same w3 g _ _ hth2
    · rename_i e
      refine World.rangeAt_setCells_apart (hrg j hj) g _ _ (.inr ?_)
      have hl : ((l.getD j []).map bv).length = 32 := by rw [List.length_map]; exact h32.get _ (by rw [hn.out]; exact hj)
      rw [hl, List.length_map, hx32]
      omega
  have b4 := below_setCells (x.map bv) w3 g ((2 * k + 1) * 32) b3 (Nat.le_trans b1.size hgb)
  go_upto_region 8 with (first
    | (refine wpList_load_mid rfl _ _ rfl g (2 * k * 32) rfl (x.map bv) _ hgx Tryd.underlying25 rfl (by rw [List.length_map, hx32]; kernel_rfl) ?_)
    | (refine wpList_store_mid rfl _ _ _ rfl g ((2 * k + 1) * 32) (x.map bv).toArray rfl rfl (by rw [List.size_toArray]; exact hth2) (by rw [List.size_toArray, List.length_map, hx32]; kernel_rfl) (by simp [Value.oneCell']) ?_))
  generalize w3.setCells g ((2 * k + 1) * 32) (x.map bv) = w4 at *
  go_wp2_with fail
  refine (R2.out (some ⟨g, 0, none⟩) n cap hl2n.out w4 hrg2 (ht.below b4)).mono ?_
  rintro e w5 ⟨rfl, b5⟩
  replace b5 := b4.trans (b5.mono b4.size)
  clear hrg2 hth2 hth hgo hgx hrg hrd own3 b4 hgh
  go_upto_region 9 with (refine wpList_storeAv (b5.alloc b5.size _) (heap_alloc_new _ _) b5.size rfl _ _ _ rfl rfl (ra.map bv) rfl 32 (by rw [List.length_map, p2.out]) (by kernel_rfl) (by rw [List.size_toArray, List.length_map]; exact hzl.out) (by simp [Value.oneCell']) ?_; intro w6 a6 b6 kw6 sw6; replace sw6 := Lib.hid sw6)
  clear kw6
  go_wp2_with fail
  refine (R3.out (some ⟨bb, off, none⟩) 2 c rfl w6 (r01.below b6) (ht.below b6)).mono ?_
  rintro e w7 ⟨rfl, b7⟩
  replace b7 := b6.trans (b7.mono b6.size)
  go_upto_region 10 with (refine wpList_storeAv (b7.alloc b7.size _) (heap_alloc_new _ _) b7.size rfl _ _ _ rfl rfl (rb.map bv) rfl 32 (by rw [List.length_map, p3.out]) (by kernel_rfl) (by rw [List.size_toArray, List.length_map]; exact hzl.out) (by simp [Value.oneCell']) ?_; intro w8 a8 b8 kw8 sw8; replace sw8 := Lib.hid sw8)
  clear kw8
  have H1 : ∀ w', Ext w8.drew w' → Below w.heap.size w w' := fun w' hE => b8.trans (hE.drew.mono b8.size)
  have v1 : (0 : Int) < (n : Int) := by omega
  have v2 : (1 : Int) < (n : Int) := by omega
  have v3 : 0 < n := by omega
  have v4 : 1 < n := by omega
  refine wp_region_relT 15 [] Ext (by kernel_rfl) (by kernel_rfl) (by kernel_rfl) (by kernel_rfl) (by kernel_rfl) Ext.refl Ext.trans (by intro p hp; cases hp) ?_
  refine relMove Ext.refl rfl rfl rfl rfl _ (.inl rfl) (by conv => lhs; whnf) (by simp only [List.set_cons_succ, List.set_cons_zero]; rfl) ?_
  refine relMove Ext.refl rfl rfl rfl rfl _ (.inl rfl) (by conv => lhs; whnf) (by simp only [List.set_cons_succ, List.set_cons_zero]; rfl) ?_
  refine relMove Ext.refl rfl rfl rfl rfl _ (.inl rfl) (by conv => lhs; whnf) (by simp only [List.set_cons_succ, List.set_cons_zero]; rfl) ?_
  refine relPick Ext.refl rfl rfl rfl rfl _ _ _ rfl rfl (by conv => lhs; whnf) (by simp only [List.set_cons_succ, List.set_cons_zero]; rfl) ?_
  refine relMove Ext.refl rfl rfl rfl rfl _ (.inl rfl) (by conv => lhs; whnf) (by simp only [List.set_cons_succ, List.set_cons_zero]; rfl) ?_
  refine relMove Ext.refl rfl rfl rfl rfl _ (.inl rfl) (by conv => lhs; whnf) (by simp only [List.set_cons_succ, List.set_cons_zero]; rfl) ?_
  refine relMove Ext.refl rfl rfl rfl rfl _ (.inl rfl) (by conv => lhs; whnf) (by simp only [List.set_cons_succ, List.set_cons_zero]; rfl) ?_
  refine relPure Ext.refl rfl rfl rfl rfl (fun w _ => by go_simp; first | done | rfl) (by simp only [List.set_cons_succ, List.set_cons_zero]; rfl) ?_
  refine relPure Ext.refl rfl rfl rfl rfl (c := .agg (hcs y0)) (fun w hw => exec_load_mid _ _ rfl bb (off) rfl (y0.map bv) _ (hr0.out w (H1 w hw)) Tryd.underlying25 rfl (by rw [List.length_map, hy032]; kernel_rfl)) (by simp only [List.set_cons_succ, List.set_cons_zero]; rfl) ?_
  refine relMove Ext.refl rfl rfl rfl rfl _ (.inl rfl) (by conv => lhs; whnf) (by simp only [List.set_cons_succ, List.set_cons_zero]; rfl) ?_
  refine relPure Ext.refl rfl rfl rfl rfl (fun w _ => by go_simp; first | done | rfl) (by simp only [List.set_cons_succ, List.set_cons_zero]; rfl) ?_
  refine relPure Ext.refl rfl rfl rfl rfl (c := .agg (hcs y1)) (fun w hw => exec_load_mid _ _ rfl bb (off + 32) rfl (y1.map bv) _ (hr1.out w (H1 w hw)) Tryd.underlying25 rfl (by rw [List.length_map, hy132]; kernel_rfl)) (by simp only [List.set_cons_succ, List.set_cons_zero]; rfl) ?_
  refine relPure Ext.refl rfl rfl rfl rfl (c := .bool one) (fun w _ => by go_simp; first | done | rfl) (by simp only [List.set_cons_succ, List.set_cons_zero]; rfl) ?_
  refine relPure Ext.refl rfl rfl rfl rfl (c := .bool true) (fun w _ => by go_simp; first | done | rfl) (by simp only [List.set_cons_succ, List.set_cons_zero]; rfl) ?_
  refine relPick Ext.refl rfl rfl rfl rfl _ _ _ rfl rfl (by conv => lhs; whnf) (by simp only [List.set_cons_succ, List.set_cons_zero]; rfl) ?_
  refine relEnd fun w10 hw10 => fill_end ?_
  simp only [List.drop_succ_cons, List.drop_zero]
  go_wp2
  go_ret
  exact ⟨rfl, H1 w10 hw10⟩
end Go.Proofs.YtngindljhlbglaaDoor
