/- florinlaw10.MerkleIs: the walk. -/
import Derived.Test.YtngindljhlbglaaDoorRl
import Derived.Test.YtngindljhlbglaaDoorRj
import Derived.Test.YtngindljhlbglaaDoorClc
import Derived.Test.YtngindljhlbglaaDoorAw0
namespace Go.Proofs.YtngindljhlbglaaDoor
open Go.RowKit
theorem least_of (P : Nat → Bool) : ∀ N, P N = true → ∃ k, k ≤ N ∧ P k = true ∧ ∀ j, j < k → P j = false
  | 0, h => ⟨0, Nat.le_refl _, h, fun j hj => absurd hj (Nat.not_lt_zero _)⟩
  | N + 1, h => by
    cases h0 : P 0 with
    | true => exact ⟨0, Nat.zero_le _, h0, fun j hj => absurd hj (Nat.not_lt_zero _)⟩
    | false =>
      obtain ⟨k, k1, k2, k3⟩ := least_of (fun j => P (j + 1)) N h
      refine ⟨k + 1, by omega, k2, fun j hj => ?_⟩
      cases j with
      | zero => exact h0
      | succ j => exact k3 j (by omega)
theorem height_any (n : Int) : ∃ k : Nat, k ≤ 12 ∧ (∀ j : Nat, j < k → 1 < mWidth n j) ∧ mWidth n k ≤ 1 := by
  obtain ⟨k, k1, k2, k3⟩ := least_of (fun k => decide (mWidth n (k : Int) ≤ 1)) 12 (by
    simp only [decide_eq_true_eq]
    rw [mWidth, if_neg (by decide), show (min ((12 : Nat) : Int) 12).toNat = 12 by decide, show (2 : Int) ^ 12 = 4096 by decide]
    omega)
  refine ⟨k, k1, fun j hj => ?_, of_decide_eq_true k2⟩
  have := of_decide_eq_false (k3 j hj)
  omega
/-- slices of hashes: all levels -/
def LvW (lv : List (List (List UInt8))) (q : Nat) : VP := fun v w => ∃ A c ps, v = .slice A q c ∧ Rd w A (scl ps lv) ∧ LvAt w ps lv
theorem LvW.mono {lv : List (List (List UInt8))} {q : Nat} {v : Value} {w w' : World} (h : Ext w w') : LvW lv q v w → LvW lv q v w' := by
  rintro ⟨A, c, ps, rfl, hr, hl⟩
  exact ⟨A, c, ps, rfl, hr.below h, hl.below h⟩
/-- Branch of any place, of both -/
theorem branch_any (l : List (List UInt8)) (h32 : All32 l) (Al : Option Addr) (nl cl : Nat) (hn : l.length = nl) (hn2 : nl ≤ 4096) (i : Int) :
    ∃ (R : List (List UInt8)) (q : Nat) (ok : Bool), All32 R ∧ R.length = q ∧ q ≤ 13 ∧
      (∀ w, Rd w Al (hcl l) → Tabs w → Calls Tryd.prog 16 #[.slice Al nl cl, .int .i64 i] w fun e w' => ∃ A c, e = .returned (.tuple #[.slice A q c, .bool ok]) ∧ Rd w' A (hcl R) ∧ Below w.heap.size w w') ∧
      (∀ w, Rd w Al (hcl l) → Calls Tryd.prog 19 #[.slice Al nl cl, .int .i64 i] w fun e w' => ∃ A c, e = .returned (.tuple #[.slice A q c, .bool ok]) ∧ Rd w' A (hcl R) ∧ Below w.heap.size w w') := by
  by_cases h : i < 0 ∨ (nl : Int) ≤ i
  · refine ⟨[], 0, false, fun x hx => (by cases hx), rfl, by omega, fun w _ _ => (Branch_no Al nl cl i h w).mono ?_, fun w hr => (BranchR_no l h32 Al nl cl hn hn2 i h w hr).mono ?_⟩
    · rintro e w' ⟨rfl, hb⟩
      exact ⟨none, 0, rfl, Rd.nil _ _, hb⟩
    · rintro e w' ⟨rfl, hb⟩
      exact ⟨none, 0, rfl, Rd.nil _ _, hb⟩
  · obtain ⟨k, rfl⟩ : ∃ k : Nat, i = (k : Int) := ⟨i.toNat, by omega⟩
    refine ⟨mBr (mLv l) k, (mBr (mLv l) k).length, true, mBr_32 _ _ fun x hx => (mLv_mem l h32 x hx).1, rfl, ?_, fun w hr ht => (Branch l h32 Al nl cl hn hn2 k (by omega) w hr ht).mono ?_, fun w hr => (BranchR l h32 Al nl cl hn hn2 k (by omega) w hr).mono ?_⟩
    · have h1 := mBr_len (mLv l) k
      have h2 := mLv_len l
      omega
    · rintro e w' ⟨v, rfl, ho, hb⟩
      obtain ⟨A, c, rfl, _, _⟩ := own_form ho
      exact ⟨A, c, rfl, own_rd ho, hb⟩
    · rintro e w' ⟨v, rfl, ho, hb⟩
      obtain ⟨A, c, rfl, _, _⟩ := own_form ho
      exact ⟨A, c, rfl, own_rd ho, hb⟩
set_option maxRecDepth 10000 in
set_option maxHeartbeats 4000000 in
theorem law_MerkleIs (l : List (List UInt8)) (h32 : All32 l) (Al : Option Addr) (nl cl : Nat) (hn : l.length = nl) (i : Int) (hi : i < 9223372036854775808) (x : List UInt8) (x32 : x.length = 32) (br : List (List UInt8)) (hb32 : All32 br) (Abr : Option Addr) (nb cbr : Nat) (hnb : br.length = nb) (n ht0 : Int)
    (w : World) (hr : Rd w Al (hcl l)) (hrb : Rd w Abr (hcl br)) (ht : Tabs w) :
    Calls Tryd.prog 8 #[.slice Al nl cl, .int .i64 i, .agg (hcs x), .slice Abr nb cbr, .int .i64 n, .int .i64 ht0] w fun e w' => e = .returned (.bool true) ∧ Below w.heap.size w w' := by
  have HA := Lib.hid (fun w ht => awake10 w ht)
  have b0 := (Below.refl w.heap.size w).alloc (Nat.le_refl _) (.cells (x.map bv).toArray 25)
  have a8 : Av (w.alloc (.cells (x.map bv).toArray 25)) w.heap.size 25 (x.map bv) := heap_alloc_new _ _
  by_cases hbig : 40 < nl
  · have t1 : decide ((40 : Int) < (nl : Int)) = true := by simp; omega
    go_enter Tryd.func8, Tryd.ntmps8
    go_wp2_with (go_at_call 9; refine (HA.out _ (ht.below b0)).mono ?_; rintro e w1 ⟨rfl, b1⟩)
    go_ret
    exact ⟨rfl, b0.trans (b1.mono b0.size)⟩
  have t1 : decide ((40 : Int) < (nl : Int)) = false := by simp; omega
  by_cases hbig2 : 40 < nb
  · have t2 : decide ((40 : Int) < (nb : Int)) = true := by simp; omega
    go_enter Tryd.func8, Tryd.ntmps8
    go_wp2_with (go_at_call 9; refine (HA.out _ (ht.below b0)).mono ?_; rintro e w1 ⟨rfl, b1⟩)
    go_ret
    exact ⟨rfl, b0.trans (b1.mono b0.size)⟩
  have t2 : decide ((40 : Int) < (nb : Int)) = false := by simp; omega
  have hz := zeros_32
  have hzl : (List.replicate 32 (0 : UInt8)).length = 32 := by simp
  obtain ⟨zs, hzs⟩ : ∃ zs : List UInt8, zs = List.replicate 32 0 := ⟨_, rfl⟩
  rw [← hzs] at hz hzl
  clear hzs
  replace hzl := Lib.hid hzl
  have HR := Lib.hid (fun w hr ht => Root l h32 Al nl cl hn (by omega) w hr ht)
  have HRR := Lib.hid (fun w hr => RootR l h32 Al nl cl hn w hr)
  have rt32 := mRootOf_lengthR l h32
  obtain ⟨R, qb, ok, hR32, hRq, hq13, HB, HBR⟩ := branch_any l h32 Al nl cl hn (by omega) i
  have HS := Lib.hid (fun (Ab1 : Option Addr) (cb1 : Nat) (Ab2 : Option Addr) (cb2 : Nat) w ra rb => SameH R R hR32 hR32 Ab1 Ab2 qb qb cb1 cb2 hRq hRq (by omega) (by omega) w ra rb)
  rw [beq_self_eq_true] at HS
  obtain ⟨k, hk⟩ : ∃ k : Nat, max i 0 = (k : Int) := ⟨(max i 0).toNat, by omega⟩
  have HC := Lib.hid (fun w hr ht => Climb x x32 br hb32 i k hk (by omega) Abr nb cbr hnb (by omega) w hr ht)
  have HCR := Lib.hid (fun w hr => ClimbR x x32 br hb32 i k hk (by omega) Abr nb cbr hnb (by omega) w hr)
  have cx32 := mClimb_length x br k x32
  have HW := Lib.hid (fun w => Width n ht0 w)
  have HWR := Lib.hid (fun w => WidthR n ht0 w)
  obtain ⟨K, k12, klo, khi⟩ := height_any n
  have HH := Lib.hid (fun w => Height n K k12 klo khi w)
  have HHR := Lib.hid (fun w => HeightR n K k12 klo khi w)
  have hlv13 := mLv_len l
  have HSL := fun q hq hq13 ps qs A B ca cb w => SameLvR (mLv l) (fun x hx => mLv_mem l h32 x hx) q hq hq13 ps qs A B ca cb w
  have HL := fun w hr ht => Levels l h32 Al nl cl hn w hr ht
  have HLR := fun w hr => LevelsR l h32 Al nl cl hn w hr
  generalize mClimb x br k = cx at *
  generalize mWidth n ht0 = W0 at *
  generalize mRootOf (mLv l) = rt at *
  generalize mAlike (mLv l) = al at *
  generalize mLv l = lv at *
  obtain ⟨q, hq⟩ : ∃ q, lv.length = q := ⟨_, rfl⟩
  rw [hq] at hlv13
  replace HSL := Lib.hid (HSL q hq hlv13)
  replace HL : ∀ w, Rd w Al (hcl l) → Tabs w → Calls Tryd.prog 14 #[.slice Al nl cl] w fun e w'' => ∃ v, e = .returned v ∧ Ext w w'' ∧ LvW lv q v w'' := fun w hr ht => (HL w hr ht).mono (by
    rintro e w' ⟨v, ps, rfl, ob, lv2, _, b2⟩
    obtain ⟨A, c, rfl, _, _⟩ := own_form ob
    rw [hq]
    exact ⟨_, rfl, b2, A, c, ps, rfl, own_rd ob, lv2⟩)
  replace HLR : ∀ w, Rd w Al (hcl l) → Calls Tryd.prog 21 #[.slice Al nl cl] w fun e w'' => ∃ v, e = .returned v ∧ Ext w w'' ∧ LvW lv q v w'' := fun w hr => (HLR w hr).mono (by
    rintro e w' ⟨v, ps, rfl, ob, lv2, _, b2⟩
    obtain ⟨A, c, rfl, _, _⟩ := own_form ob
    rw [hq]
    exact ⟨_, rfl, b2, A, c, ps, rfl, own_rd ob, lv2⟩)
  replace HL := Lib.hid HL
  replace HLR := Lib.hid HLR
  replace HB := Lib.hid HB
  replace HBR := Lib.hid HBR
  have heq : ∀ w, (binOp .eql 25 (.agg (hcs rt)) (.agg (hcs rt))).run Tryd.prog w = .ok (.bool true) w := fun w => by
    rw [eqlH rt rt rt32 rt32, beq_self_eq_true]
  have heq2 : ∀ w, (binOp .eql 25 (.agg (hcs cx)) (.agg (hcs cx))).run Tryd.prog w = .ok (.bool true) w := fun w => by
    rw [eqlH cx cx cx32 cx32, beq_self_eq_true]
  clear hk khi klo hR32 hRq hq hn hnb hb32 h32
  go_enter Tryd.func8, Tryd.ntmps8
  go_upto_region 4 with (go_at_call 9; refine (HA.out _ (ht.below b0)).mono ?_; rintro e w1 ⟨rfl, b1⟩)
  replace a8 := a8.below b1
  replace b1 := b0.trans (b1.mono b0.size)
  clear b0
  go_wp2_with fail
  refine (HR.out w1 (hr.below b1) (ht.below b1)).mono ?_
  rintro e w2 ⟨rfl, b2⟩
  replace a8 := a8.below b2
  replace b2 := b1.trans (b2.mono b1.size)
  clear b1 HR
  have q8 := Lib.hid a8.lt
  go_upto_region 5 with (refine wpList_storeAv (b2.alloc b2.size _) (heap_alloc_new _ _) b2.size rfl _ _ _ rfl rfl (rt.map bv) rfl 32 (by rw [List.length_map, rt32]) (by kernel_rfl) (by rw [List.size_toArray, List.length_map]; exact hzl.out) (by simp [Value.oneCell']) ?_; intro w3 a14 b3 k3 s3; replace a8 := (a8.alloc (.cells (zs.map bv).toArray 25)).same (k3 _ (Nat.ne_of_lt a8.lt)); clear k3 s3)
  clear b2
  go_wp2_with fail
  refine (HRR.out w3 (hr.below b3)).mono ?_
  rintro e w4 ⟨rfl, b4⟩
  replace a8 := a8.below b4
  replace a14 := a14.below b4
  replace b4 := b3.trans (b4.mono b3.size)
  clear b3 HRR
  go_upto_region 6 with (refine wpList_storeAv (b4.alloc b4.size _) (heap_alloc_new _ _) b4.size rfl _ _ _ rfl rfl (rt.map bv) rfl 32 (by rw [List.length_map, rt32]) (by kernel_rfl) (by rw [List.size_toArray, List.length_map]; exact hzl.out) (by simp [Value.oneCell']) ?_; intro w5 a16 b5 k5 s5; replace a8 := (a8.alloc (.cells (zs.map bv).toArray 25)).same (k5 _ (Nat.ne_of_lt a8.lt)); replace a14 := (a14.alloc (.cells (zs.map bv).toArray 25)).same (k5 _ (Nat.ne_of_lt a14.lt)); clear k5 s5)
  clear b4
  go_wp2_with fail
  refine (HB.out w5 (hr.below b5) (ht.below b5)).mono ?_
  rintro e w6 ⟨Ab1, cb1, rfl, rb1, b6⟩
  replace a8 := a8.below b6
  replace a14 := a14.below b6
  replace a16 := a16.below b6
  replace b6 := b5.trans (b6.mono b5.size)
  clear b5 HB
  go_wp2_with fail
  refine (HBR.out w6 (hr.below b6)).mono ?_
  rintro e w7 ⟨Ab2, cb2, rfl, rb2, b7⟩
  replace a8 := a8.below b7
  replace a14 := a14.below b7
  replace a16 := a16.below b7
  replace rb1 := rb1.below b7
  replace b7 := b6.trans (b7.mono b6.size)
  clear b6 HBR
  replace HS := Lib.hid (HS.out Ab1 cb1 Ab2 cb2)
  go_upto_region 8 with fail
  have H1x : ∀ w', Ext w7.drew w' → Below w7.heap.size w7 w' := fun w' hE => hE.drew
  have H1 : ∀ w', Ext w7.drew w' → Below w.heap.size w w' := fun w' hE => b7.trans (hE.drew.mono b7.size)
  · refine wp_region_rel [(3, LvW lv q), (5, LvW lv q)] Ext (by kernel_rfl) (by kernel_rfl) (by kernel_rfl) Ext.refl Ext.trans (by intro p hp v w w' hR; simp only [List.mem_cons, List.not_mem_nil, or_false] at hp; rcases hp with rfl | rfl <;> exact LvW.mono hR) ?_
    refine relMove Ext.refl rfl rfl rfl rfl _ (.inl rfl) (by conv => lhs; whnf) (by simp only [List.set_cons_succ, List.set_cons_zero]; rfl) ?_
    refine relMove Ext.refl rfl rfl rfl rfl _ (.inl rfl) (by conv => lhs; whnf) (by simp only [List.set_cons_succ, List.set_cons_zero]; rfl) ?_
    refine relMove Ext.refl rfl rfl rfl rfl _ (.inl rfl) (by conv => lhs; whnf) (by simp only [List.set_cons_succ, List.set_cons_zero]; rfl) ?_
    refine relWord _ rfl (fun w hw => fill_none rfl (relOp_yes rfl (relRes_enter 14 #[.slice Al nl cl] (by go_simp) (HL.out w (hr.below (H1 w hw)) (ht.below (H1 w hw)))))) ?_
    refine relMove Ext.refl rfl rfl rfl rfl _ (.inl rfl) (by conv => lhs; whnf) (by simp only [List.set_cons_succ, List.set_cons_zero]; rfl) ?_
    refine relWord _ rfl (fun w hw => fill_skip rfl (fill_skip rfl (fill_end (relOp_yes rfl (relRes_enter 21 #[.slice Al nl cl] (by go_simp) (HLR.out w (hr.below (H1 w hw)))))))) ?_
    refine relOn rfl rfl (c := .bool true) (fun w hw => fill_take rfl rfl fun v1 hv1 => fill_take rfl rfl fun v2 hv2 => fill_end ?_) (by simp only [List.set_cons_succ, List.set_cons_zero]; rfl) ?_
    · obtain ⟨A1, c1, ps1, rfl, r1, l1⟩ := hv1
      obtain ⟨A2, c2, ps2, rfl, r2, l2⟩ := hv2
      simp only [List.set_cons_succ, List.set_cons_zero]
      refine relOp_yes rfl (relRes_enter 20 #[.slice A1 q c1, .slice A2 q c2] (by go_simp) ?_)
      exact (HSL.out ps1 ps2 A1 A2 c1 c2 w r1 r2 l1 l2).mono fun _ _ h => ⟨_, h.1, h.2, rfl⟩
    refine relPick Ext.refl rfl rfl rfl rfl _ _ _ rfl rfl (c := .bool true) rfl (by simp only [List.set_cons_succ, List.set_cons_zero]; rfl) ?_
    refine relMove Ext.refl rfl rfl rfl rfl _ (.inl rfl) (by conv => lhs; whnf) (by simp only [List.set_cons_succ, List.set_cons_zero]; rfl) ?_
    refine relPure Ext.refl rfl rfl rfl rfl (c := .agg (hcs rt)) (fun w hw => exec_loadAv (a14.below (hw.drew)) _ _ rfl rfl _ 32 (by rw [List.length_map]; exact rt32) Tryd.underlying25 rfl (by kernel_rfl)) (by simp only [List.set_cons_succ, List.set_cons_zero]; rfl) ?_
    refine relPure Ext.refl rfl rfl rfl rfl (c := .agg (hcs rt)) (fun w hw => exec_loadAv (a16.below (hw.drew)) _ _ rfl rfl _ 32 (by rw [List.length_map]; exact rt32) Tryd.underlying25 rfl (by kernel_rfl)) (by simp only [List.set_cons_succ, List.set_cons_zero]; rfl) ?_
    refine relPure Ext.refl rfl rfl rfl rfl (c := .bool true) (fun w _ => by go_simp; first | done | rfl) (by simp only [List.set_cons_succ, List.set_cons_zero]; rfl) ?_
    refine relPick Ext.refl rfl rfl rfl rfl _ _ _ rfl rfl (c := .bool true) rfl (by simp only [List.set_cons_succ, List.set_cons_zero]; rfl) ?_
    refine relMove Ext.refl rfl rfl rfl rfl _ (.inl rfl) (by conv => lhs; whnf) (by simp only [List.set_cons_succ, List.set_cons_zero]; rfl) ?_
    refine relMove Ext.refl rfl rfl rfl rfl _ (.inl rfl) (by conv => lhs; whnf) (by simp only [List.set_cons_succ, List.set_cons_zero]; rfl) ?_
    refine relMove Ext.refl rfl rfl rfl rfl _ (.inl rfl) (by conv => lhs; whnf) (by simp only [List.set_cons_succ, List.set_cons_zero]; rfl) ?_
    refine relPure Ext.refl rfl rfl rfl rfl (c := .bool true) (fun w _ => by go_simp; first | done | rfl) (by simp only [List.set_cons_succ, List.set_cons_zero]; rfl) ?_
    refine relPick Ext.refl rfl rfl rfl rfl _ _ _ rfl rfl (c := .bool true) rfl (by simp only [List.set_cons_succ, List.set_cons_zero]; rfl) ?_
    refine relMove Ext.refl rfl rfl rfl rfl _ (.inl rfl) (by conv => lhs; whnf) (by simp only [List.set_cons_succ, List.set_cons_zero]; rfl) ?_
    refine relMove Ext.refl rfl rfl rfl rfl _ (.inl rfl) (by conv => lhs; whnf) (by simp only [List.set_cons_succ, List.set_cons_zero]; rfl) ?_
    refine relMove Ext.refl rfl rfl rfl rfl _ (.inl rfl) (by conv => lhs; whnf) (by simp only [List.set_cons_succ, List.set_cons_zero]; rfl) ?_
    refine relCall1 rfl rfl rfl rfl (c := .bool true) 15 #[.slice Ab1 qb cb1, .slice Ab2 qb cb2] (fun w => by go_simp) (fun w hw => (HS.out w (rb1.below (H1x w hw)) (rb2.below (H1x w hw))).mono fun _ _ h => h) (by simp only [List.set_cons_succ, List.set_cons_zero]; rfl) ?_
    refine relPick Ext.refl rfl rfl rfl rfl _ _ _ rfl rfl (c := .bool true) rfl (by simp only [List.set_cons_succ, List.set_cons_zero]; rfl) ?_
    refine relMove Ext.refl rfl rfl rfl rfl _ (.inl rfl) (by conv => lhs; whnf) (by simp only [List.set_cons_succ, List.set_cons_zero]; rfl) ?_
    refine relMove Ext.refl rfl rfl rfl rfl _ (.inl rfl) (by conv => lhs; whnf) (by simp only [List.set_cons_succ, List.set_cons_zero]; rfl) ?_
    refine relMove Ext.refl rfl rfl rfl rfl _ (.inl rfl) (by conv => lhs; whnf) (by simp only [List.set_cons_succ, List.set_cons_zero]; rfl) ?_
    refine relPure Ext.refl rfl rfl rfl rfl (c := .bool true) (fun w _ => by go_simp; first | done | rfl) (by simp only [List.set_cons_succ, List.set_cons_zero]; rfl) ?_
    refine relPick Ext.refl rfl rfl rfl rfl _ _ _ rfl rfl (c := .bool true) rfl (by simp only [List.set_cons_succ, List.set_cons_zero]; rfl) ?_
    refine relMove Ext.refl rfl rfl rfl rfl _ (.inl rfl) (by conv => lhs; whnf) (by simp only [List.set_cons_succ, List.set_cons_zero]; rfl) ?_
    refine relPure Ext.refl rfl rfl rfl rfl (c := .agg (hcs x)) (fun w hw => exec_loadAv (a8.below (hw.drew)) _ _ rfl rfl _ 32 (by rw [List.length_map]; exact x32) Tryd.underlying25 rfl (by kernel_rfl)) (by simp only [List.set_cons_succ, List.set_cons_zero]; rfl) ?_
    refine relMove Ext.refl rfl rfl rfl rfl _ (.inl rfl) (by conv => lhs; whnf) (by simp only [List.set_cons_succ, List.set_cons_zero]; rfl) ?_
    refine relMove Ext.refl rfl rfl rfl rfl _ (.inl rfl) (by conv => lhs; whnf) (by simp only [List.set_cons_succ, List.set_cons_zero]; rfl) ?_
    refine relCall1 rfl rfl rfl rfl (c := .agg (hcs cx)) 17 #[.agg (hcs x), .slice Abr nb cbr, .int .i64 i] (fun w => by go_simp) (fun w hw => (HC.out w (hrb.below (H1 w hw)) (ht.below (H1 w hw))).mono fun _ _ h => h) (by simp only [List.set_cons_succ, List.set_cons_zero]; rfl) ?_
    refine relPure Ext.refl rfl rfl rfl rfl (c := .agg (hcs x)) (fun w hw => exec_loadAv (a8.below (hw.drew)) _ _ rfl rfl _ 32 (by rw [List.length_map]; exact x32) Tryd.underlying25 rfl (by kernel_rfl)) (by simp only [List.set_cons_succ, List.set_cons_zero]; rfl) ?_
    refine relMove Ext.refl rfl rfl rfl rfl _ (.inl rfl) (by conv => lhs; whnf) (by simp only [List.set_cons_succ, List.set_cons_zero]; rfl) ?_
    refine relMove Ext.refl rfl rfl rfl rfl _ (.inl rfl) (by conv => lhs; whnf) (by simp only [List.set_cons_succ, List.set_cons_zero]; rfl) ?_
    refine relCall1 rfl rfl rfl rfl (c := .agg (hcs cx)) 22 #[.agg (hcs x), .slice Abr nb cbr, .int .i64 i] (fun w => by go_simp) (fun w hw => (HCR.out w (hrb.below (H1 w hw))).mono fun _ _ h => h) (by simp only [List.set_cons_succ, List.set_cons_zero]; rfl) ?_
    refine relPure Ext.refl rfl rfl rfl rfl (c := .bool true) (fun w _ => by go_simp; first | done | rfl) (by simp only [List.set_cons_succ, List.set_cons_zero]; rfl) ?_
    refine relPick Ext.refl rfl rfl rfl rfl _ _ _ rfl rfl (c := .bool true) rfl (by simp only [List.set_cons_succ, List.set_cons_zero]; rfl) ?_
    refine relMove Ext.refl rfl rfl rfl rfl _ (.inl rfl) (by conv => lhs; whnf) (by simp only [List.set_cons_succ, List.set_cons_zero]; rfl) ?_
    refine relMove Ext.refl rfl rfl rfl rfl _ (.inl rfl) (by conv => lhs; whnf) (by simp only [List.set_cons_succ, List.set_cons_zero]; rfl) ?_
    refine relMove Ext.refl rfl rfl rfl rfl _ (.inl rfl) (by conv => lhs; whnf) (by simp only [List.set_cons_succ, List.set_cons_zero]; rfl) ?_
    refine relCall1 rfl rfl rfl rfl (c := .int .i64 W0) 13 #[.int .i64 n, .int .i64 ht0] (fun w => by go_simp) (fun w hw => (HW.out w).mono (by rintro e w' ⟨rfl, rfl⟩; exact ⟨rfl, Ext.refl _⟩)) (by simp only [List.set_cons_succ, List.set_cons_zero]; rfl) ?_
    refine relMove Ext.refl rfl rfl rfl rfl _ (.inl rfl) (by conv => lhs; whnf) (by simp only [List.set_cons_succ, List.set_cons_zero]; rfl) ?_
    refine relMove Ext.refl rfl rfl rfl rfl _ (.inl rfl) (by conv => lhs; whnf) (by simp only [List.set_cons_succ, List.set_cons_zero]; rfl) ?_
    refine relCall1 rfl rfl rfl rfl (c := .int .i64 W0) 23 #[.int .i64 n, .int .i64 ht0] (fun w => by go_simp) (fun w hw => (HWR.out w).mono (by rintro e w' ⟨rfl, rfl⟩; exact ⟨rfl, Ext.refl _⟩)) (by simp only [List.set_cons_succ, List.set_cons_zero]; rfl) ?_
    refine relPure Ext.refl rfl rfl rfl rfl (c := .bool true) (fun w _ => by go_simp; first | done | rfl) (by simp only [List.set_cons_succ, List.set_cons_zero]; rfl) ?_
    refine relPick Ext.refl rfl rfl rfl rfl _ _ _ rfl rfl (c := .bool true) rfl (by simp only [List.set_cons_succ, List.set_cons_zero]; rfl) ?_
    refine relMove Ext.refl rfl rfl rfl rfl _ (.inl rfl) (by conv => lhs; whnf) (by simp only [List.set_cons_succ, List.set_cons_zero]; rfl) ?_
    refine relMove Ext.refl rfl rfl rfl rfl _ (.inl rfl) (by conv => lhs; whnf) (by simp only [List.set_cons_succ, List.set_cons_zero]; rfl) ?_
    refine relCall1 rfl rfl rfl rfl (c := .int .i64 (K : Int)) 12 #[.int .i64 n] (fun w => by go_simp) (fun w hw => (HH.out w).mono (by rintro e w' ⟨rfl, rfl⟩; exact ⟨rfl, Ext.refl _⟩)) (by simp only [List.set_cons_succ, List.set_cons_zero]; rfl) ?_
    refine relMove Ext.refl rfl rfl rfl rfl _ (.inl rfl) (by conv => lhs; whnf) (by simp only [List.set_cons_succ, List.set_cons_zero]; rfl) ?_
    refine relCall1 rfl rfl rfl rfl (c := .int .i64 (K : Int)) 24 #[.int .i64 n] (fun w => by go_simp) (fun w hw => (HHR.out w).mono (by rintro e w' ⟨rfl, rfl⟩; exact ⟨rfl, Ext.refl _⟩)) (by simp only [List.set_cons_succ, List.set_cons_zero]; rfl) ?_
    refine relPure Ext.refl rfl rfl rfl rfl (c := .bool true) (fun w _ => by go_simp; first | done | rfl) (by simp only [List.set_cons_succ, List.set_cons_zero]; rfl) ?_
    refine relPick Ext.refl rfl rfl rfl rfl _ _ _ rfl rfl (c := .bool true) rfl (by simp only [List.set_cons_succ, List.set_cons_zero]; rfl) ?_
    refine relMove Ext.refl rfl rfl rfl rfl _ (.inr rfl) (by conv => lhs; whnf) (by simp only [List.set_cons_succ, List.set_cons_zero]; rfl) ?_
    refine relEnd fun w8 hw8 => fill_take rfl rfl fun v1 hv1 => fill_take rfl rfl fun v2 hv2 => fill_end ?_
    simp only [List.set_cons_succ, List.set_cons_zero]
    have b8 := H1 w8 hw8
    go_wp2
    go_ret
    exact ⟨rfl, b8⟩
end Go.Proofs.YtngindljhlbglaaDoor
