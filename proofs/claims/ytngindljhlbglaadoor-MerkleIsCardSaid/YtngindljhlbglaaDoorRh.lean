/- florinref10: Width, Height, up. -/
import Derived.Test.YtngindljhlbglaaDoorRg
import Derived.Test.YtngindljhlbglaaDoorUp
namespace Go.Proofs.YtngindljhlbglaaDoor
open Go.RowKit
theorem pow_le12 : ∀ k : Nat, k ≤ 12 → 1 ≤ (2 : Int) ^ k ∧ (2 : Int) ^ k ≤ 4096 := by decide
theorem WidthR (n ht : Int) (w : World) : Calls Tryd.prog 23 #[.int .i64 n, .int .i64 ht] w fun e w' => e = .returned (.int .i64 (mWidth n ht)) ∧ w' = w := by
  by_cases hh : ht < 0
  · go_enter Tryd.func23, Tryd.ntmps23
    go_wp2
    go_ret
    exact ⟨by rw [mWidth, if_pos hh]; rfl, rfl⟩
  · have h0 : 0 ≤ ht := by omega
    obtain ⟨M, hM⟩ : ∃ M, M = min (max n 0) 4096 := ⟨_, rfl⟩
    have hM0 : 0 ≤ M := by omega
    have hM1 : M ≤ 4096 := by omega
    obtain ⟨V, hV⟩ : ∃ V, V = mWidth n ht := ⟨_, rfl⟩
    have hVk : ∀ k : Nat, (min ht 12).toNat = k → V = (M + 2 ^ k - 1) / 2 ^ k := fun k hk => by rw [hV, mWidth, if_neg hh, hk, hM]
    rw [← hV]
    clear hV hh
    replace hVk := Lib.hid hVk
    rcases (show n < 0 ∨ (0 ≤ n ∧ n ≤ 4096) ∨ 4096 < n by omega) with hn | hn | hn <;>
    · go_enter Tryd.func23, Tryd.ntmps23
      go_wp2
      all_goals try (exfalso; omega)
      all_goals
        go_loopw [5, 6] (fun p i wr => ∃ (k : Nat) (P : Int), Hid (P = 2 ^ k) ∧ k ≤ 12 ∧ (k : Int) ≤ ht ∧ p = .int .i64 P ∧ i = .int .i64 (k : Int) ∧ wr = w) (fun _ i _ => 12 - (intOf i).toNat)
        case atStart => exact ⟨0, 1, Lib.hid (by decide), by omega, by omega, rfl, rfl, rfl⟩
        case round =>
          obtain ⟨k, P, hP, hk, hkh, rfl, rfl, rfl⟩ := hrel
          have hpb := pow_le12 k hk
          rw [← hP.out] at hpb
          by_cases hlt : (k : Int) < ht ∧ k < 12
          · have t1 : decide ((k : Int) < ht) = true := decide_eq_true hlt.1
            have t2 : decide ((k : Int) < 12) = true := decide_eq_true (by omega)
            have hpb2 := pow_le12 (k + 1) (by omega)
            rw [Int.pow_succ, ← hP.out] at hpb2
            go_wp2
            refine ⟨⟨k + 1, P * 2, Lib.hid (by rw [Int.pow_succ, hP.out]), by omega, by omega, rfl, rfl, trivial⟩, ?_⟩
            simp [intOf]; omega
          · have hv := Lib.hid (hVk.out k (by omega))
            rw [← hP.out] at hv
            have hP0 : (P == 0) = false := by simp; omega
            have hP1 : P ≠ 0 := by omega
            by_cases hl : (k : Int) < ht
            · have t1 : decide ((k : Int) < ht) = true := decide_eq_true hl
              have t2 : decide ((k : Int) < 12) = false := decide_eq_false (by omega)
              go_wp2
              go_ret
              refine ⟨congrArg (fun x => Ending.returned (Value.int IntKind.i64 x)) ?_, rfl⟩
              rw [hv.out]
              congr 1
              omega
            · have t1 : decide ((k : Int) < ht) = false := decide_eq_false hl
              go_wp2
              go_ret
              refine ⟨congrArg (fun x => Ending.returned (Value.int IntKind.i64 x)) ?_, rfl⟩
              rw [hv.out]
              congr 1
              omega
theorem HeightR (n : Int) (k : Nat) (h12 : k ≤ 12) (hlo : ∀ j : Nat, j < k → 1 < mWidth n j) (hhi : mWidth n k ≤ 1) (w : World) : Calls Tryd.prog 24 #[.int .i64 n] w fun e w' => e = .returned (.int .i64 (k : Int)) ∧ w' = w := by
  have HW := Lib.hid (fun (h : Int) w => WidthR n h w)
  go_enter Tryd.func24, Tryd.ntmps24
  go_wp2
  go_loopw [3] (fun i wr => ∃ j : Nat, j ≤ k ∧ i = .int .i64 (j : Int) ∧ wr = w) (fun i _ => k - (intOf i).toNat)
  case atStart => exact ⟨0, by omega, rfl, rfl⟩
  case round =>
    obtain ⟨j, hj, rfl, rfl⟩ := hrel
    by_cases hjk : j < k
    · have h1 := hlo j hjk
      have h2 : decide (1 < mWidth n j) = true := by simpa using h1
      go_wp2_with (go_at_call 23; refine (HW.out _ _).mono ?_; rintro e w' ⟨rfl, rfl⟩)
      refine ⟨⟨j + 1, by omega, by go_num, trivial⟩, ?_⟩
      simp [intOf]; omega
    · obtain rfl : j = k := by omega
      have h2 : decide (1 < mWidth n j) = false := by simp; omega
      go_wp2_with (go_at_call 23; refine (HW.out _ _).mono ?_; rintro e w' ⟨rfl, rfl⟩)
      go_ret
      exact ⟨rfl, rfl⟩
set_option maxRecDepth 10000 in
set_option maxHeartbeats 2000000 in
theorem upR (l : List (List UInt8)) (h32 : All32 l) (A : Option Addr) (n c : Nat) (w : World) (hr : Rd w A (hcl l)) (hn : l.length = n) (hm : n ≤ 4096) :
    Calls Tryd.prog 28 #[.slice A n c] w fun e w' => ∃ v, e = .returned v ∧ w'.ownsRow w.heap.size 25 32 v ((n + 1) / 2) (hcl (mUp l)) ∧ Below w.heap.size w w' := by
  replace hn := Lib.hid hn
  go_enter Tryd.func28, Tryd.ntmps28
  go_wp2
  go_loopw [3, 4] (fun v i wr => ∃ k : Nat, 2 * k ≤ n + 1 ∧ i = .int .i64 ((2 * k : Nat) : Int) ∧ wr.ownsRow w.heap.size 25 32 v k (hcl ((mUp l).take k)) ∧ Below w.heap.size w wr) (fun _ i _ => n + 1 - (intOf i).toNat)
  case atStart => exact ⟨0, by omega, rfl, World.ownsRow_nil _ _ _ _, Below.refl _ _⟩
  case round =>
    obtain ⟨k, hk, rfl, hown, hb⟩ := hrel
    by_cases hlt : 2 * k < n
    · have t1 : decide (((2 * k : Nat) : Int) < (n : Int)) = true := by simp; omega
      obtain ⟨b, off, rfl⟩ := hr.someA (hcl_ne h32 (by rw [hn.out]; omega))
      obtain ⟨x, hx⟩ : ∃ x, x = l.getD (2 * k) [] := ⟨_, rfl⟩
      obtain ⟨j, hj⟩ : ∃ j, j = min (2 * k + 1) (n - 1) := ⟨_, rfl⟩
      have hjn : j < n := by omega
      obtain ⟨y, hy⟩ : ∃ y, y = l.getD j [] := ⟨_, rfl⟩
      have hx32 : x.length = 32 := by rw [hx]; exact h32.get _ (by rw [hn.out]; omega)
      have hy32 : y.length = 32 := by rw [hy]; exact h32.get _ (by rw [hn.out]; omega)
      have hrx := Lib.hid (fun w' (hE : Below w.heap.size w w') => hx ▸ (hr.below hE).hash h32 (2 * k) (by rw [hn.out]; omega))
      have hry := Lib.hid (fun w' (hE : Below w.heap.size w w') => hy ▸ (hr.below hE).hash h32 j (by rw [hn.out]; omega))
      have hg : (mUp l)[k]? = some (pairB x y) := by
        rw [mUp_get l k (by rw [hn.out]; exact hlt), hn.out, ← hj, ← hx, ← hy]
      have hj1 : min (2 * (k : Int) + 1) ((n : Int) - 1) = (j : Int) := by omega
      have hjm : (if (n : Int) - 1 < 2 * (k : Int) + 1 then (n : Int) - 1 else 2 * (k : Int) + 1) = (j : Int) := by split <;> omega
      have hj2 : IntKind.i64.wrap (2 * (k : Int) + 1) = 2 * (k : Int) + 1 := by rw [IntKind.wrap_i64]; omega
      have hj3 : IntKind.i64.wrap ((n : Int) - 1) = (n : Int) - 1 := by rw [IntKind.wrap_i64]; omega
      have hj4 : ((2 * k : Nat) : Int) = 2 * (k : Int) := by omega
      have HQ := Lib.hid (fun w => PairR x y hx32 hy32 w)
      replace hj := Lib.hid hj
      replace hx := Lib.hid hx
      replace hy := Lib.hid hy
      replace hg := Lib.hid hg
      go_wp2_with fail
      have H1 : ∀ w', Ext wr.drew w' → Below w.heap.size w w' := fun w' hE => hb.trans (hE.drew.mono hb.size)
      refine wp_region_relT 16 [(15, OneW ((pairB x y).map bv))] Ext (by kernel_rfl) (by kernel_rfl) (by kernel_rfl) (by kernel_rfl) (by kernel_rfl) Ext.refl Ext.trans (by intro p hp v w w' hR; simp only [List.mem_singleton] at hp; subst hp; exact OneW.mono hR) ?_
      refine relMove Ext.refl rfl rfl rfl rfl _ (.inl rfl) (by conv => lhs; whnf) (by simp only [List.set_cons_succ, List.set_cons_zero]; rfl) ?_
      refine relMove Ext.refl rfl rfl rfl rfl _ (.inl rfl) (by conv => lhs; whnf) (by simp only [List.set_cons_succ, List.set_cons_zero]; rfl) ?_
      refine relMove Ext.refl rfl rfl rfl rfl _ (.inl rfl) (by conv => lhs; whnf) (by simp only [List.set_cons_succ, List.set_cons_zero]; rfl) ?_
      refine relPure Ext.refl rfl rfl rfl rfl (fun w _ => by go_simp; first | done | rfl) (by simp only [List.set_cons_succ, List.set_cons_zero]; rfl) ?_
      refine relPure Ext.refl rfl rfl rfl rfl (c := .agg (hcs x)) (fun w hw => exec_load_mid _ _ rfl b (off + 2 * k * 32) rfl (x.map bv) _ (hrx.out w (H1 w hw)) Tryd.underlying25 rfl (by rw [List.length_map, hx32]; kernel_rfl)) (by simp only [List.set_cons_succ, List.set_cons_zero]; rfl) ?_
      refine relMove Ext.refl rfl rfl rfl rfl _ (.inl rfl) (by conv => lhs; whnf) (by simp only [List.set_cons_succ, List.set_cons_zero]; rfl) ?_
      refine relMove Ext.refl rfl rfl rfl rfl _ (.inl rfl) (by conv => lhs; whnf) (by simp only [List.set_cons_succ, List.set_cons_zero]; rfl) ?_
      refine relPure Ext.refl rfl rfl rfl rfl (fun w _ => by go_simp; first | done | rfl) (by simp only [List.set_cons_succ, List.set_cons_zero]; rfl) ?_
      refine relMove Ext.refl rfl rfl rfl rfl _ (.inl rfl) (by conv => lhs; whnf) (by simp only [List.set_cons_succ, List.set_cons_zero]; rfl) ?_
      refine relPure Ext.refl rfl rfl rfl rfl (fun w _ => by go_simp; first | done | rfl) (by simp only [List.set_cons_succ, List.set_cons_zero]; rfl) ?_
      refine relPure Ext.refl rfl rfl rfl rfl (fun w _ => by go_simp; first | done | rfl) (by simp only [List.set_cons_succ, List.set_cons_zero]; rfl) ?_
      refine relPure Ext.refl rfl rfl rfl rfl (c := .int .i64 (j : Int)) (fun w _ => by go_simp; first | done | rfl | exact hjm) (by simp only [List.set_cons_succ, List.set_cons_zero]; rfl) ?_
      refine relPure Ext.refl rfl rfl rfl rfl (fun w _ => by go_simp; first | done | rfl) (by simp only [List.set_cons_succ, List.set_cons_zero]; rfl) ?_
      refine relPure Ext.refl rfl rfl rfl rfl (c := .agg (hcs y)) (fun w hw => exec_load_mid _ _ rfl b (off + j * 32) rfl (y.map bv) _ (hry.out w (H1 w hw)) Tryd.underlying25 rfl (by rw [List.length_map, hy32]; kernel_rfl)) (by simp only [List.set_cons_succ, List.set_cons_zero]; rfl) ?_
      refine relCall1 rfl rfl rfl rfl (c := .agg (hcs (pairB x y))) 29 #[.agg (hcs x), .agg (hcs y)] (fun w => by go_simp) (fun w hw => (HQ.out w).mono ?_) (by simp only [List.set_cons_succ, List.set_cons_zero]; rfl) ?_
      · rintro e w' ⟨rfl, hb⟩
        exact ⟨rfl, hb⟩
      refine relWord _ rfl (fun w hw => fill_none rfl (relOp_yes rfl ?_)) ?_
      · rw [exec_buildH (pairB x y) (pairB_length x y) _ rfl (by rw [eval_evL]; rfl)]
        exact ⟨(Below.refl _ _).alloc (Nat.le_refl _) _, _, rfl, Av.rd (t := 25) (heap_alloc_new _ _)⟩
      refine relEnd fun w2 hw2 => fill_take rfl rfl fun v hv => fill_end ?_
      simp only [List.set_cons_succ, List.set_cons_zero, List.drop_succ_cons, List.drop_zero]
      obtain ⟨B, rfl, hrb⟩ := hv
      have hb2 := H1 w2 hw2
      rw [← hcl_one] at hrb
      replace hown := own_below hown hw2.drew.below
      go_wp2_with (at_builtin; refine wpList_appH hown hb2 hb2.size (All32.one (pairB_length x y)) 1 1 hrb rfl (by omega) rfl (.tmp 11) (.tmp 26) rfl rfl rfl ?_; intro v3 w3 hown3 hb3 hz3 _ _)
      refine ⟨⟨k + 1, by omega, by rw [show ((2 * (k + 1) : Nat) : Int) = 2 * (k : Int) + 2 by omega], ?_, hb3⟩, ?_⟩
      · rw [List.take_add_one, hg.out]; exact hown3
      · simp only [intOf]; omega
    · have t1 : decide (((2 * k : Nat) : Int) < (n : Int)) = false := by simp; omega
      go_wp2
      go_ret
      refine ⟨_, rfl, ?_, hb⟩
      rw [List.take_of_length_le (by rw [mUp_length, hn.out]; omega)] at hown
      rw [show (n + 1) / 2 = k by omega]
      exact hown
end Go.Proofs.YtngindljhlbglaaDoor
