/- florinlaw10.MerkleClimbs: the walk. -/
import Derived.Test.YtngindljhlbglaaDoorWid
import Derived.Test.YtngindljhlbglaaDoorMal
namespace Go.Proofs.YtngindljhlbglaaDoor
open Go.RowKit
set_option maxRecDepth 10000 in
set_option maxHeartbeats 1000000 in
theorem Branch_none (n : Nat) (A : Option Addr) (c : Nat) (w : World) : Calls Tryd.prog 16 #[.slice A n c, .int .i64 (n : Int)] w fun e w' => e = .returned (.tuple #[.slice none 0 0, .bool false]) ∧ Below w.heap.size w w' := by
  have g1 : decide ((n : Int) < 0) = false := by simp
  have g2 : decide ((n : Int) ≤ (n : Int)) = true := by simp
  go_enter Tryd.func16, Tryd.ntmps16
  go_wp2
  refine bodyPost_ret (results_tmp2 rfl _ _ _) rfl ⟨rfl, (Below.refl _ _).alloc (Nat.le_refl _) _⟩
set_option maxRecDepth 10000 in
set_option maxHeartbeats 1000000 in
theorem climbs_early (n : Nat) (h : 60 < n ∨ n = 0) (A : Option Addr) (c : Nat) (i : Int) (w : World) (ht : Tabs w) :
    Calls Tryd.prog 7 #[.slice A n c, .int .i64 i] w fun e w' => e = .returned (.bool true) ∧ Below w.heap.size w w' := by
  have HA := Lib.hid (awake10 w ht)
  by_cases h60 : 60 < n
  · have t1 : decide ((60 : Int) < (n : Int)) = true := by simp; omega
    go_enter Tryd.func7, Tryd.ntmps7
    go_wp2_with (go_at_call 9; refine (HA.out).mono ?_; rintro e w1 ⟨rfl, b1⟩)
    go_ret
    exact ⟨rfl, b1⟩
  · obtain rfl : n = 0 := by omega
    go_enter Tryd.func7, Tryd.ntmps7
    go_wp2_with (go_at_call 9; refine (HA.out).mono ?_; rintro e w1 ⟨rfl, b1⟩)
    go_ret
    exact ⟨rfl, b1⟩

set_option maxRecDepth 10000 in
set_option maxHeartbeats 2000000 in
theorem climbs_ok (l : List (List UInt8)) (h32 : All32 l) (n : Nat) (hn : l.length = n) (h2 : 0 < n) (h60 : n ≤ 60) (A : Option Addr) (c : Nat) (i : Int) (q : Nat) (hq : bits .and .i64 i 65535 = (q : Int)) (w : World) (hr : Rd w A (hcl l)) (ht : Tabs w) :
    Calls Tryd.prog 7 #[.slice A n c, .int .i64 i] w fun e w' => e = .returned (.bool true) ∧ Below w.heap.size w w' := by
  have hz := zeros_32
  have hzl : (List.replicate 32 (0 : UInt8)).length = 32 := by simp
  obtain ⟨zs, hzs⟩ : ∃ zs : List UInt8, zs = List.replicate 32 0 := ⟨_, rfl⟩
  rw [← hzs] at hz hzl
  clear hzs
  replace hzl := Lib.hid hzl
  have HA := Lib.hid (awake10 w ht)
  obtain ⟨bb, off, rfl⟩ := hr.someA (hcl_ne h32 (by omega))
  obtain ⟨k, hk⟩ : ∃ k, k = q % n := ⟨_, rfl⟩
  have hkn : k < n := by rw [hk]; exact Nat.mod_lt _ h2
  have t1 : decide ((60 : Int) < (n : Int)) = false := by simp; omega
  have t2 : ((n : Int) == 0) = false := by simp; omega
  have d3 : (q : Int) % (n : Int) = (k : Int) := by rw [hk]; simp
  have d4 : (n : Int) ≠ 0 := by omega
  have n0 : 0 ≤ (k : Int) := by omega
  have n1 : (k : Int) < (n : Int) := by omega
  obtain ⟨x, hx⟩ : ∃ x, x = l.getD k [] := ⟨_, rfl⟩
  have hx32 : x.length = 32 := by rw [hx]; exact h32.get _ (by omega)
  have hrx := Lib.hid (fun w' (hE : Below w.heap.size w w') => hx ▸ (hr.below hE).hash h32 k (by omega))
  have hlv : mLv l = mLvF 12 l := by rw [mLv, if_neg (by omega)]
  have hlaw := climb_law 12 l k (by omega) (by omega)
  have hbl := mBr_length 12 l k (by omega) (by omega)
  have hb32 : All32 (mBr (mLv l) k) := mBr_32 _ _ fun z hz => (mLv_mem l h32 z hz).1
  rw [← hlv, ← hx] at hlaw
  rw [← hlv] at hbl
  obtain ⟨K, hK⟩ : ∃ K, K = (mLv l).length - 1 := ⟨_, rfl⟩
  have hbK : (mBr (mLv l) k).length = K := by omega
  have hK12 := mLv_len l
  have R := Root l h32
  have hrl := mRoot_length l h32
  have HB := Lib.hid (fun w hr ht => Branch l h32 (some ⟨bb, off, none⟩) n c hn (by omega) k hkn w hr ht)
  have HH := Lib.hid (fun w => Height_levels l n hn h2 (by omega) w)
  rw [← hK] at HH
  have HC := Lib.hid (fun (Ab : Option Addr) (cb : Nat) w hr ht => Climb x hx32 (mBr (mLv l) k) hb32 k (by omega) Ab K cb hbK (by omega) w hr ht)
  rw [hlaw] at HC
  rw [hbK] at HB
  have hone : n = 1 → mRootOf (mLv l) = l.getD 0 [] := fun h1 => by rw [hlv, mLvF_one _ _ (by omega), mRootOf_one]
  generalize mAlike (mLv l) = al at R
  generalize mRootOf (mLv l) = r at *
  generalize mBr (mLv l) k = br at *
  have heq : ∀ w, (binOp .eql 25 (.agg (hcs r)) (.agg (hcs r))).run Tryd.prog w = .ok (.bool true) w := fun w => by
    rw [eqlH r r hrl hrl, beq_self_eq_true]
  clear hlaw hbl hlv hx hk
  replace R := Lib.hid R
  replace hrl := Lib.hid hrl
  replace hn := Lib.hid hn
  replace hK := Lib.hid hK
  replace hbK := Lib.hid hbK
  replace hone := Lib.hid hone
  go_enter Tryd.func7, Tryd.ntmps7
  go_upto_region 5 with (go_at_call 9; refine (HA.out).mono ?_; rintro e w1 ⟨rfl, b1⟩)
  go_wp2_with fail
  refine (R.out (some ⟨bb, off, none⟩) n c hn.out (by omega) w1 (hr.below b1) (ht.below b1)).mono ?_
  rintro e w2 ⟨rfl, b2⟩
  replace b2 := b1.trans (b2.mono b1.size)
  go_upto_region 6 with (refine wpList_storeAv (b2.alloc b2.size _) (heap_alloc_new _ _) b2.size rfl _ _ _ rfl rfl (r.map bv) rfl 32 (by rw [List.length_map, hrl.out]) (by kernel_rfl) (by rw [List.size_toArray, List.length_map]; exact hzl.out) (by simp [Value.oneCell']) ?_; intro w3 a7 b3 k3 s3; replace s3 := Lib.hid s3; clear k3)
  go_wp2_with fail
  refine (HB.out w3 (hr.below b3) (ht.below b3)).mono ?_
  rintro e w4 ⟨v, rfl, ob, b4⟩
  obtain ⟨Ab, cb, rfl, hcb, _⟩ := own_form ob
  replace a7 := a7.below b4
  replace b4 := b3.trans (b4.mono b3.size)
  go_upto_region 7 with fail
  go_wp2_with fail
  refine (Branch_none n (some ⟨bb, off, none⟩) c w4).mono ?_
  rintro e w5 ⟨rfl, b5⟩
  replace a7 := a7.below b5
  replace ob := own_below ob b5
  replace b5 := b4.trans (b5.mono b4.size)
  go_upto_region 8 with fail
  have H1 : ∀ w', Ext w5.drew w' → Below w.heap.size w w' := fun w' hE => b5.trans (hE.drew.mono b5.size)
  replace HC := Lib.hid (HC.out Ab cb)
  have v3 : 0 < n := h2
  by_cases hn1 : 1 < n
  · have t3 : decide ((1 : Int) < (n : Int)) = true := by simp; omega
    refine wp_region_relT 39 [] Ext (by kernel_rfl) (by kernel_rfl) (by kernel_rfl) (by kernel_rfl) (by kernel_rfl) Ext.refl Ext.trans (by intro p hp; cases hp) ?_
    refine relMove Ext.refl rfl rfl rfl rfl _ (.inl rfl) (by conv => lhs; whnf) (by simp only [List.set_cons_succ, List.set_cons_zero]; rfl) ?_
    refine relMove Ext.refl rfl rfl rfl rfl _ (.inl rfl) (by conv => lhs; whnf) (by simp only [List.set_cons_succ, List.set_cons_zero]; rfl) ?_
    refine relMove Ext.refl rfl rfl rfl rfl _ (.inl rfl) (by conv => lhs; whnf) (by simp only [List.set_cons_succ, List.set_cons_zero]; rfl) ?_
    refine relPick Ext.refl rfl rfl rfl rfl _ _ _ rfl rfl (by conv => lhs; whnf) (by simp only [List.set_cons_succ, List.set_cons_zero]; rfl) ?_
    refine relMove Ext.refl rfl rfl rfl rfl _ (.inl rfl) (by conv => lhs; whnf) (by simp only [List.set_cons_succ, List.set_cons_zero]; rfl) ?_
    refine relMove Ext.refl rfl rfl rfl rfl _ (.inl rfl) (by conv => lhs; whnf) (by simp only [List.set_cons_succ, List.set_cons_zero]; rfl) ?_
    refine relPure Ext.refl rfl rfl rfl rfl (fun w _ => by go_simp; first | done | rfl) (by simp only [List.set_cons_succ, List.set_cons_zero]; rfl) ?_
    refine relPick Ext.refl rfl rfl rfl rfl _ _ _ rfl rfl (by conv => lhs; whnf) (by simp only [List.set_cons_succ, List.set_cons_zero]; rfl) ?_
    refine relMove Ext.refl rfl rfl rfl rfl _ (.inl rfl) (by conv => lhs; whnf) (by simp only [List.set_cons_succ, List.set_cons_zero]; rfl) ?_
    refine relMove Ext.refl rfl rfl rfl rfl _ (.inl rfl) (by conv => lhs; whnf) (by simp only [List.set_cons_succ, List.set_cons_zero]; rfl) ?_
    refine relPure Ext.refl rfl rfl rfl rfl (fun w _ => by go_simp; first | done | rfl) (by simp only [List.set_cons_succ, List.set_cons_zero]; rfl) ?_
    refine relMove Ext.refl rfl rfl rfl rfl _ (.inl rfl) (by conv => lhs; whnf) (by simp only [List.set_cons_succ, List.set_cons_zero]; rfl) ?_
    refine relPure Ext.refl rfl rfl rfl rfl (fun w _ => by go_simp; first | done | rfl) (by simp only [List.set_cons_succ, List.set_cons_zero]; rfl) ?_
    refine relCall1 rfl rfl rfl rfl (c := .int .i64 (K : Int)) 12 #[.int .i64 (n : Int)] (fun w => by go_simp) (fun w hw => (HH.out w).mono ?_) (by simp only [List.set_cons_succ, List.set_cons_zero]; rfl) ?_
    · rintro e w' ⟨rfl, rfl⟩
      exact ⟨rfl, Ext.refl _⟩
    refine relPure Ext.refl rfl rfl rfl rfl (c := .bool true) (fun w _ => by go_simp; first | done | rfl) (by simp only [List.set_cons_succ, List.set_cons_zero]; rfl) ?_
    refine relPick Ext.refl rfl rfl rfl rfl _ _ _ rfl rfl (by conv => lhs; whnf) (by simp only [List.set_cons_succ, List.set_cons_zero]; rfl) ?_
    refine relMove Ext.refl rfl rfl rfl rfl _ (.inl rfl) (by conv => lhs; whnf) (by simp only [List.set_cons_succ, List.set_cons_zero]; rfl) ?_
    refine relMove Ext.refl rfl rfl rfl rfl _ (.inl rfl) (by conv => lhs; whnf) (by simp only [List.set_cons_succ, List.set_cons_zero]; rfl) ?_
    refine relMove Ext.refl rfl rfl rfl rfl _ (.inl rfl) (by conv => lhs; whnf) (by simp only [List.set_cons_succ, List.set_cons_zero]; rfl) ?_
    refine relPure Ext.refl rfl rfl rfl rfl (fun w _ => by go_simp; first | done | rfl) (by simp only [List.set_cons_succ, List.set_cons_zero]; rfl) ?_
    refine relPure Ext.refl rfl rfl rfl rfl (c := .agg (hcs x)) (fun w hw => exec_load_mid _ _ rfl bb (off + k * 32) rfl (x.map bv) _ (hrx.out w (H1 w hw)) Tryd.underlying25 rfl (by rw [List.length_map, hx32]; kernel_rfl)) (by simp only [List.set_cons_succ, List.set_cons_zero]; rfl) ?_
    refine relMove Ext.refl rfl rfl rfl rfl _ (.inl rfl) (by conv => lhs; whnf) (by simp only [List.set_cons_succ, List.set_cons_zero]; rfl) ?_
    refine relMove Ext.refl rfl rfl rfl rfl _ (.inl rfl) (by conv => lhs; whnf) (by simp only [List.set_cons_succ, List.set_cons_zero]; rfl) ?_
    refine relCall1 rfl rfl rfl rfl (c := .agg (hcs r)) 17 #[.agg (hcs x), .slice Ab K cb, .int .i64 (k : Int)] (fun w => by go_simp) (fun w hw => (HC.out w (own_rd (own_below ob hw.drew)) (ht.below (H1 w hw))).mono ?_) (by simp only [List.set_cons_succ, List.set_cons_zero]; rfl) ?_
    · rintro e w' ⟨rfl, hb⟩
      exact ⟨rfl, hb⟩
    refine relPure Ext.refl rfl rfl rfl rfl (c := .agg (r.map bv).toArray) (fun w hw => exec_loadAv (a7.below hw.drew) _ _ rfl rfl _ 32 (by rw [List.length_map, hrl.out]) Tryd.underlying25 rfl (by kernel_rfl)) (by simp only [List.set_cons_succ, List.set_cons_zero]; rfl) ?_
    refine relPure Ext.refl rfl rfl rfl rfl (c := .bool true) (fun w _ => by go_simp; first | done | rfl) (by simp only [List.set_cons_succ, List.set_cons_zero]; rfl) ?_
    refine relPick Ext.refl rfl rfl rfl rfl _ _ _ rfl rfl (by conv => lhs; whnf) (by simp only [List.set_cons_succ, List.set_cons_zero]; rfl) ?_
    refine relMove Ext.refl rfl rfl rfl rfl _ (.inl rfl) (by conv => lhs; whnf) (by simp only [List.set_cons_succ, List.set_cons_zero]; rfl) ?_
    refine relMove Ext.refl rfl rfl rfl rfl _ (.inl rfl) (by conv => lhs; whnf) (by simp only [List.set_cons_succ, List.set_cons_zero]; rfl) ?_
    refine relPure Ext.refl rfl rfl rfl rfl (fun w _ => by go_simp; first | done | rfl) (by simp only [List.set_cons_succ, List.set_cons_zero]; rfl) ?_
    refine relPure Ext.refl rfl rfl rfl rfl (c := .bool true) (fun w _ => by go_simp; first | done | rfl) (by simp only [List.set_cons_succ, List.set_cons_zero]; rfl) ?_
    refine relMove Ext.refl rfl rfl rfl rfl _ (.inl rfl) (by conv => lhs; whnf) (by simp only [List.set_cons_succ, List.set_cons_zero]; rfl) ?_
    refine relSkip rfl rfl rfl rfl (by simp only [List.set_cons_succ, List.set_cons_zero]; rfl) ?_
    refine relSkip rfl rfl rfl rfl (by simp only [List.set_cons_succ, List.set_cons_zero]; rfl) ?_
    refine relSkip rfl rfl rfl rfl (by simp only [List.set_cons_succ, List.set_cons_zero]; rfl) ?_
    refine relSkip rfl rfl rfl rfl (by simp only [List.set_cons_succ, List.set_cons_zero]; rfl) ?_
    refine relSkip rfl rfl rfl rfl (by simp only [List.set_cons_succ, List.set_cons_zero]; rfl) ?_
    refine relPick Ext.refl rfl rfl rfl rfl _ _ _ rfl rfl (by conv => lhs; whnf) (by simp only [List.set_cons_succ, List.set_cons_zero]; rfl) ?_
    refine relPick Ext.refl rfl rfl rfl rfl _ _ _ rfl rfl (by conv => lhs; whnf) (by simp only [List.set_cons_succ, List.set_cons_zero]; rfl) ?_
    refine relEnd fun w10 hw10 => fill_end ?_
    simp only [List.drop_succ_cons, List.drop_zero]
    go_wp2
    go_ret
    exact ⟨rfl, H1 w10 hw10⟩
  · have t3 : decide ((1 : Int) < (n : Int)) = false := by simp; omega
    have hrr := Lib.hid (fun w' (hE : Below w.heap.size w w') => (hone.out (by omega)) ▸ (hr.below hE).hash h32 0 (by rw [hn.out]; omega))
    rw [Nat.zero_mul, Nat.add_zero] at hrr
    have hr32 : r.length = 32 := hrl.out
    refine wp_region_relT 39 [] Ext (by kernel_rfl) (by kernel_rfl) (by kernel_rfl) (by kernel_rfl) (by kernel_rfl) Ext.refl Ext.trans (by intro p hp; cases hp) ?_
    refine relMove Ext.refl rfl rfl rfl rfl _ (.inl rfl) (by conv => lhs; whnf) (by simp only [List.set_cons_succ, List.set_cons_zero]; rfl) ?_
    refine relMove Ext.refl rfl rfl rfl rfl _ (.inl rfl) (by conv => lhs; whnf) (by simp only [List.set_cons_succ, List.set_cons_zero]; rfl) ?_
    refine relMove Ext.refl rfl rfl rfl rfl _ (.inl rfl) (by conv => lhs; whnf) (by simp only [List.set_cons_succ, List.set_cons_zero]; rfl) ?_
    refine relPick Ext.refl rfl rfl rfl rfl _ _ _ rfl rfl (by conv => lhs; whnf) (by simp only [List.set_cons_succ, List.set_cons_zero]; rfl) ?_
    refine relMove Ext.refl rfl rfl rfl rfl _ (.inl rfl) (by conv => lhs; whnf) (by simp only [List.set_cons_succ, List.set_cons_zero]; rfl) ?_
    refine relMove Ext.refl rfl rfl rfl rfl _ (.inl rfl) (by conv => lhs; whnf) (by simp only [List.set_cons_succ, List.set_cons_zero]; rfl) ?_
    refine relPure Ext.refl rfl rfl rfl rfl (fun w _ => by go_simp; first | done | rfl) (by simp only [List.set_cons_succ, List.set_cons_zero]; rfl) ?_
    refine relPick Ext.refl rfl rfl rfl rfl _ _ _ rfl rfl (by conv => lhs; whnf) (by simp only [List.set_cons_succ, List.set_cons_zero]; rfl) ?_
    refine relMove Ext.refl rfl rfl rfl rfl _ (.inl rfl) (by conv => lhs; whnf) (by simp only [List.set_cons_succ, List.set_cons_zero]; rfl) ?_
    refine relMove Ext.refl rfl rfl rfl rfl _ (.inl rfl) (by conv => lhs; whnf) (by simp only [List.set_cons_succ, List.set_cons_zero]; rfl) ?_
    refine relPure Ext.refl rfl rfl rfl rfl (fun w _ => by go_simp; first | done | rfl) (by simp only [List.set_cons_succ, List.set_cons_zero]; rfl) ?_
    refine relMove Ext.refl rfl rfl rfl rfl _ (.inl rfl) (by conv => lhs; whnf) (by simp only [List.set_cons_succ, List.set_cons_zero]; rfl) ?_
    refine relPure Ext.refl rfl rfl rfl rfl (fun w _ => by go_simp; first | done | rfl) (by simp only [List.set_cons_succ, List.set_cons_zero]; rfl) ?_
    refine relCall1 rfl rfl rfl rfl (c := .int .i64 (K : Int)) 12 #[.int .i64 (n : Int)] (fun w => by go_simp) (fun w hw => (HH.out w).mono ?_) (by simp only [List.set_cons_succ, List.set_cons_zero]; rfl) ?_
    · rintro e w' ⟨rfl, rfl⟩
      exact ⟨rfl, Ext.refl _⟩
    refine relPure Ext.refl rfl rfl rfl rfl (c := .bool true) (fun w _ => by go_simp; first | done | rfl) (by simp only [List.set_cons_succ, List.set_cons_zero]; rfl) ?_
    refine relPick Ext.refl rfl rfl rfl rfl _ _ _ rfl rfl (by conv => lhs; whnf) (by simp only [List.set_cons_succ, List.set_cons_zero]; rfl) ?_
    refine relMove Ext.refl rfl rfl rfl rfl _ (.inl rfl) (by conv => lhs; whnf) (by simp only [List.set_cons_succ, List.set_cons_zero]; rfl) ?_
    refine relMove Ext.refl rfl rfl rfl rfl _ (.inl rfl) (by conv => lhs; whnf) (by simp only [List.set_cons_succ, List.set_cons_zero]; rfl) ?_
    refine relMove Ext.refl rfl rfl rfl rfl _ (.inl rfl) (by conv => lhs; whnf) (by simp only [List.set_cons_succ, List.set_cons_zero]; rfl) ?_
    refine relPure Ext.refl rfl rfl rfl rfl (fun w _ => by go_simp; first | done | rfl) (by simp only [List.set_cons_succ, List.set_cons_zero]; rfl) ?_
    refine relPure Ext.refl rfl rfl rfl rfl (c := .agg (hcs x)) (fun w hw => exec_load_mid _ _ rfl bb (off + k * 32) rfl (x.map bv) _ (hrx.out w (H1 w hw)) Tryd.underlying25 rfl (by rw [List.length_map, hx32]; kernel_rfl)) (by simp only [List.set_cons_succ, List.set_cons_zero]; rfl) ?_
    refine relMove Ext.refl rfl rfl rfl rfl _ (.inl rfl) (by conv => lhs; whnf) (by simp only [List.set_cons_succ, List.set_cons_zero]; rfl) ?_
    refine relMove Ext.refl rfl rfl rfl rfl _ (.inl rfl) (by conv => lhs; whnf) (by simp only [List.set_cons_succ, List.set_cons_zero]; rfl) ?_
    refine relCall1 rfl rfl rfl rfl (c := .agg (hcs r)) 17 #[.agg (hcs x), .slice Ab K cb, .int .i64 (k : Int)] (fun w => by go_simp) (fun w hw => (HC.out w (own_rd (own_below ob hw.drew)) (ht.below (H1 w hw))).mono ?_) (by simp only [List.set_cons_succ, List.set_cons_zero]; rfl) ?_
    · rintro e w' ⟨rfl, hb⟩
      exact ⟨rfl, hb⟩
    refine relPure Ext.refl rfl rfl rfl rfl (c := .agg (r.map bv).toArray) (fun w hw => exec_loadAv (a7.below hw.drew) _ _ rfl rfl _ 32 (by rw [List.length_map, hrl.out]) Tryd.underlying25 rfl (by kernel_rfl)) (by simp only [List.set_cons_succ, List.set_cons_zero]; rfl) ?_
    refine relPure Ext.refl rfl rfl rfl rfl (c := .bool true) (fun w _ => by go_simp; first | done | rfl) (by simp only [List.set_cons_succ, List.set_cons_zero]; rfl) ?_
    refine relPick Ext.refl rfl rfl rfl rfl _ _ _ rfl rfl (by conv => lhs; whnf) (by simp only [List.set_cons_succ, List.set_cons_zero]; rfl) ?_
    refine relMove Ext.refl rfl rfl rfl rfl _ (.inl rfl) (by conv => lhs; whnf) (by simp only [List.set_cons_succ, List.set_cons_zero]; rfl) ?_
    refine relMove Ext.refl rfl rfl rfl rfl _ (.inl rfl) (by conv => lhs; whnf) (by simp only [List.set_cons_succ, List.set_cons_zero]; rfl) ?_
    refine relPure Ext.refl rfl rfl rfl rfl (fun w _ => by go_simp; first | done | rfl) (by simp only [List.set_cons_succ, List.set_cons_zero]; rfl) ?_
    refine relPure Ext.refl rfl rfl rfl rfl (c := .bool false) (fun w _ => by go_simp; first | done | rfl) (by simp only [List.set_cons_succ, List.set_cons_zero]; rfl) ?_
    refine relMove Ext.refl rfl rfl rfl rfl _ (.inl rfl) (by conv => lhs; whnf) (by simp only [List.set_cons_succ, List.set_cons_zero]; rfl) ?_
    refine relPure Ext.refl rfl rfl rfl rfl (c := .agg (r.map bv).toArray) (fun w hw => exec_loadAv (a7.below hw.drew) _ _ rfl rfl _ 32 (by rw [List.length_map, hrl.out]) Tryd.underlying25 rfl (by kernel_rfl)) (by simp only [List.set_cons_succ, List.set_cons_zero]; rfl) ?_
    refine relMove Ext.refl rfl rfl rfl rfl _ (.inl rfl) (by conv => lhs; whnf) (by simp only [List.set_cons_succ, List.set_cons_zero]; rfl) ?_
    refine relPure Ext.refl rfl rfl rfl rfl (fun w _ => by go_simp; first | done | rfl) (by simp only [List.set_cons_succ, List.set_cons_zero]; rfl) ?_
    refine relPure Ext.refl rfl rfl rfl rfl (c := .agg (hcs r)) (fun w hw => exec_load_mid _ _ rfl bb (off) rfl (r.map bv) _ (hrr.out w (H1 w hw)) Tryd.underlying25 rfl (by rw [List.length_map, hr32]; kernel_rfl)) (by simp only [List.set_cons_succ, List.set_cons_zero]; rfl) ?_
    refine relPure Ext.refl rfl rfl rfl rfl (c := .bool true) (fun w _ => by go_simp; first | done | rfl) (by simp only [List.set_cons_succ, List.set_cons_zero]; rfl) ?_
    refine relPick Ext.refl rfl rfl rfl rfl _ _ _ rfl rfl (by conv => lhs; whnf) (by simp only [List.set_cons_succ, List.set_cons_zero]; rfl) ?_
    refine relPick Ext.refl rfl rfl rfl rfl _ _ _ rfl rfl (by conv => lhs; whnf) (by simp only [List.set_cons_succ, List.set_cons_zero]; rfl) ?_
    refine relEnd fun w10 hw10 => fill_end ?_
    simp only [List.drop_succ_cons, List.drop_zero]
    go_wp2
    go_ret
    exact ⟨rfl, H1 w10 hw10⟩
end Go.Proofs.YtngindljhlbglaaDoor
