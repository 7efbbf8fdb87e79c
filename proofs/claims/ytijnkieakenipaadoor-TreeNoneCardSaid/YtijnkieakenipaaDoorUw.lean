/- u256.Not; target.Work. -/
import Derived.Test.YtijnkieakenipaaDoorUd
import Derived.Test.YtijnkieakenipaaDoorRelO
import Derived.Test.YtijnkieakenipaaDoorTm
namespace Go.Proofs.YtijnkieakenipaaDoor
open Go.RowKit
theorem xor_max (x : Nat) (h : x < 18446744073709551616) : 18446744073709551615 ^^^ x = 18446744073709551615 - x := by
  have h1 : (BitVec.allOnes 64 ^^^ BitVec.ofNat 64 x).toNat = 18446744073709551615 - x := by
    rw [BitVec.allOnes_xor]; simp; omega
  rw [BitVec.toNat_xor, BitVec.toNat_allOnes, BitVec.toNat_ofNat, Nat.mod_eq_of_lt (by omega)] at h1
  exact h1
theorem bits_not (x : Nat) (h : x < 18446744073709551616) : bits .xor .u64 IntKind.u64.max (x : Int) = ((18446744073709551616 - 1 - x : Nat) : Int) := by
  have e := xor_max x h
  rw [show 18446744073709551616 - 1 - x = 18446744073709551615 - x from rfl, ← e]
  unfold bits
  simp
  rw [show (IntKind.u64.max % 2 ^ IntKind.u64.bits).toNat = 18446744073709551615 from by decide, show x % 2 ^ IntKind.u64.bits = x from Nat.mod_eq_of_lt (by rw [show 2 ^ IntKind.u64.bits = 18446744073709551616 from by decide]; exact h), IntKind.wrap_u64, e]
  omega
theorem lim_not (n : Nat) (h : n < 115792089237316195423570985008687907853269984665640564039457584007913129639936) : uc (115792089237316195423570985008687907853269984665640564039457584007913129639936 - 1 - n) = uq4 (18446744073709551616 - 1 - lim n 0) (18446744073709551616 - 1 - lim n 1) (18446744073709551616 - 1 - lim n 2) (18446744073709551616 - 1 - lim n 3) := by
  have hs := lim_sum h
  have l0 := lim_lt n 0
  have l1 := lim_lt n 1
  have l2 := lim_lt n 2
  have l3 := lim_lt n 3
  obtain ⟨N, hN, hNs, q0, q1, q2, q3⟩ := lim_of (18446744073709551616 - 1 - lim n 0) (18446744073709551616 - 1 - lim n 1) (18446744073709551616 - 1 - lim n 2) (18446744073709551616 - 1 - lim n 3) (by omega) (by omega) (by omega) (by omega)
  have e : 115792089237316195423570985008687907853269984665640564039457584007913129639936 - 1 - n = N := by
    rw [hNs]
    clear q0 q1 q2 q3
    omega
  rw [e, uc, q0, q1, q2, q3]
set_option maxRecDepth 100000 in
set_option maxHeartbeats 1000000 in
theorem UNot (n : Nat) (hn : n < 115792089237316195423570985008687907853269984665640564039457584007913129639936) (w : World) :
    Calls Tryd.prog 30 #[.agg (uc n).toArray] w fun e w' => e = .returned (.agg (uc (115792089237316195423570985008687907853269984665640564039457584007913129639936 - 1 - n)).toArray) ∧ Below w.heap.size w w' := by
  rw [lim_not n hn]
  have l0 := lim_lt n 0
  have l1 := lim_lt n 1
  have l2 := lim_lt n 2
  have l3 := lim_lt n 3
  unfold uc
  generalize lim n 0 = x0 at *
  generalize lim n 1 = x1 at *
  generalize lim n 2 = x2 at *
  generalize lim n 3 = x3 at *
  have g0 := bits_not x0 l0
  have g1 := bits_not x1 l1
  have g2 := bits_not x2 l2
  have g3 := bits_not x3 l3
  have hsg : IntKind.u64.signed = false := rfl
  generalize 18446744073709551616 - 1 - x0 = y0 at *
  generalize 18446744073709551616 - 1 - x1 = y1 at *
  generalize 18446744073709551616 - 1 - x2 = y2 at *
  generalize 18446744073709551616 - 1 - x3 = y3 at *
  obtain ⟨W, hW⟩ : ∃ W, W = (w.alloc (.cells (uq4 x0 x1 x2 x3).toArray 39)).alloc (.cells #[.int .u64 0, .int .u64 0, .int .u64 0, .int .u64 0] 39) := ⟨_, rfl⟩
  obtain ⟨H, hH⟩ : ∃ H, H = w.heap.size := ⟨_, rfl⟩
  have bW : Below w.heap.size w W := by rw [hW]; exact ((Below.refl _ _).alloc (Nat.le_refl _) _).alloc (by simp) _
  have aA : Av W H 39 (uq4 x0 x1 x2 x3) := by rw [hW, hH]; exact heap_alloc2_old _ _ _
  have aR : Av W (H + 1) 39 (uq4 0 0 0 0) := by rw [hW, hH]; exact heap_alloc2_new _ _ _
  have c0 := aA.cell 0 _ rfl
  have c1 := aA.cell 1 _ rfl
  have c2 := aA.cell 2 _ rfl
  have c3 := aA.cell 3 _ rfl
  have hHw : w.heap.size ≤ H + 1 := by rw [hH]; omega
  replace hW := Lib.hid hW
  replace hH := Lib.hid hH
  go_enter Tryd.func30, Tryd.ntmps30
  go_upto_region 1 with fail
  rw [← hW.out, ← hH.out]
  go_wp2_with ((with_reducible refine wpList_storeFA 39 bW aR hHw (uq4 y0 y1 y2 y3) ?_ ?_ 4 ?_ ?_ ?_ ?_ ?_); rfl; rfl; rfl; kernel_rfl; rfl; rfl; intro w6 a6 b6 k6 z6)
  refine bodyPost_ret (results_cell_row rfl _ _ (H + 1) _ _ (0, 0) _ (by rfl) a6 Tryd.underlying39 rfl (by kernel_rfl)) rfl ⟨rfl, b6⟩
set_option maxRecDepth 100000 in
set_option maxHeartbeats 4000000 in
theorem TWork_no (b : Nat) (hb : b < 4294967296) (h : mExp b = none) (w : World) :
    Calls Tryd.prog 20 #[.int .u32 (b : Int)] w fun e w' => e = .returned (.agg (uc 0).toArray) ∧ Below w.heap.size w w' := by
  have HE := TExp b hb
  rw [expV_none h] at HE
  obtain ⟨W, hW⟩ : ∃ W, W = w.alloc (.cells #[.int .u64 0, .int .u64 0, .int .u64 0, .int .u64 0] 39) := ⟨_, rfl⟩
  obtain ⟨H, hH⟩ : ∃ H, H = w.heap.size := ⟨_, rfl⟩
  have bW : Below H w W := by rw [hW, hH]; exact (Below.refl _ _).alloc (Nat.le_refl _) _
  have aR : Av W H 39 (uq4 0 0 0 0) := by rw [hW, hH]; exact heap_alloc_new _ _
  replace HE := Lib.hid HE
  replace hW := Lib.hid hW
  replace hH := Lib.hid hH
  have z4 : uc 0 = uq4 0 0 0 0 := uc_zero
  replace z4 := Lib.hid z4
  go_enter Tryd.func20, Tryd.ntmps20
  go_upto_region 1 with fail
  rw [← hW.out, ← hH.out]
  go_upto_region 2 with (first
    | (go_at_call 27; refine (HE.out W).mono ?_; rintro e w1 ⟨rfl, b1⟩)
    | ((with_reducible refine wpList_storeF 39 ((Below.refl w1.heap.size w1).alloc (Nat.le_refl _) _) (heap_alloc_new _ _) (Nat.le_refl _) (uc 0) ?_ ?_ 4 ?_ ?_ ?_ ?_ ?_); rfl; rfl; rfl; kernel_rfl; rfl; rfl; intro w2 a2 b2 k2 z2; clear k2; replace z2 := Lib.hid z2))
  have hlt := aR.lt
  have c2 : Below H w w2 := (bW.trans (b1.mono (Nat.le_of_lt hlt))).trans (b2.mono (Nat.le_trans (Nat.le_of_lt hlt) b1.size))
  have r2 := (aR.below b1).below b2
  clear b1 b2 a2 bW aR
  go_wp2_with ((with_reducible refine wpList_storeFA 39 c2 r2 (Nat.le_refl _) (uq4 0 0 0 0) ?_ ?_ 4 ?_ ?_ ?_ ?_ ?_); rfl; rfl; rfl; kernel_rfl; rfl; rfl; intro w6 a6 b6 k6 z6; clear k6; replace z6 := Lib.hid z6)
  refine bodyPost_ret (results_cell_row rfl _ _ H _ _ (0, 0) _ (by rfl) a6 Tryd.underlying39 rfl (by kernel_rfl)) rfl ⟨by rw [z4.out], by rw [← hH.out]; exact b6⟩
set_option maxRecDepth 100000 in
set_option maxHeartbeats 4000000 in
theorem TWork_yes (b t : Nat) (hb : b < 4294967296) (h : mExp b = some t) (w : World) :
    Calls Tryd.prog 20 #[.int .u32 (b : Int)] w fun e w' => e = .returned (.agg (uc (mWork b)).toArray) ∧ Below w.heap.size w w' := by
  have HE := TExp b hb
  rw [expV_some h] at HE
  obtain ⟨ht, ht0⟩ := mExp_lt h
  obtain ⟨R, hR⟩ : ∃ R, R = mWork b := ⟨_, rfl⟩
  have hR2 : R = if 115792089237316195423570985008687907853269984665640564039457584007913129639936 ≤ t + 1 then 1 else ((115792089237316195423570985008687907853269984665640564039457584007913129639936 - 1 - t) / (t + 1) + 1) % 115792089237316195423570985008687907853269984665640564039457584007913129639936 := by rw [hR, mWork, h]
  rw [← hR]
  obtain ⟨W, hW⟩ : ∃ W, W = w.alloc (.cells #[.int .u64 0, .int .u64 0, .int .u64 0, .int .u64 0] 39) := ⟨_, rfl⟩
  obtain ⟨H, hH⟩ : ∃ H, H = w.heap.size := ⟨_, rfl⟩
  have bW : Below H w W := by rw [hW, hH]; exact (Below.refl _ _).alloc (Nat.le_refl _) _
  have aR : Av W H 39 (uq4 0 0 0 0) := by rw [hW, hH]; exact heap_alloc_new _ _
  have HO := UOf 1 (by omega)
  have HA := UAdd t 1 ht (by omega)
  obtain ⟨V, hV⟩ : ∃ V, V = (t + 1) % 115792089237316195423570985008687907853269984665640564039457584007913129639936 := ⟨_, rfl⟩
  obtain ⟨o, ho⟩ : ∃ o, o = decide (115792089237316195423570985008687907853269984665640564039457584007913129639936 ≤ t + 1) := ⟨_, rfl⟩
  rw [← hV, ← ho] at HA
  replace HE := Lib.hid HE
  replace HO := Lib.hid HO
  replace HA := Lib.hid HA
  replace hW := Lib.hid hW
  replace hH := Lib.hid hH
  replace hR := Lib.hid hR
  replace hR2 := Lib.hid hR2
  replace hV := Lib.hid hV
  replace ho := Lib.hid ho
  go_enter Tryd.func20, Tryd.ntmps20
  go_upto_region 1 with fail
  rw [← hW.out, ← hH.out]
  go_upto_region 2 with (first
    | (go_at_call 27; refine (HE.out W).mono ?_; rintro e w1 ⟨rfl, b1⟩)
    | ((with_reducible refine wpList_storeF 39 ((Below.refl w1.heap.size w1).alloc (Nat.le_refl _) _) (heap_alloc_new _ _) (Nat.le_refl _) (uc t) ?_ ?_ 4 ?_ ?_ ?_ ?_ ?_); rfl; rfl; rfl; kernel_rfl; rfl; rfl; intro w2 a2 b2 k2 z2; clear k2; replace z2 := Lib.hid z2))
  have hlt := aR.lt
  have c2 : Below H w w2 := (bW.trans (b1.mono (Nat.le_of_lt hlt))).trans (b2.mono (Nat.le_trans (Nat.le_of_lt hlt) b1.size))
  have r2 := (aR.below b1).below b2
  have hg : H < w1.heap.size := Nat.lt_of_lt_of_le hlt b1.size
  obtain ⟨G, hG⟩ : ∃ G, G = w1.heap.size := ⟨_, rfl⟩
  rw [← hG] at hg a2 ⊢
  have a3 := a2
  clear b1 b2 a2 bW aR hG
  go_upto_region 4 with fail
  refine wp_region_relO [⟨6, 5, 7, 39, uq4 0 0 0 0, uc V⟩] [] (by kernel_rfl) (by kernel_rfl) (by kernel_rfl) (by kernel_rfl) (by kernel_rfl) (by intro e he; cases he) (by simp) (by intro e he; cases he) ?_
  refine oPure rfl rfl rfl rfl (c := .agg (uc t).toArray) (fun w hw => exec_loadAv (a3.below hw.nil) _ _ rfl rfl _ 4 rfl Tryd.underlying39 rfl (by kernel_rfl)) (by simp only [List.set_cons_succ, List.set_cons_zero]; rfl) ?_
  refine oCall1 rfl rfl rfl rfl (c := .agg (uc 1).toArray) 28 #[.int .u64 1] (fun w => by go_simp) (fun w hw => (HO.out w).mono (by rintro e w' ⟨rfl, b⟩; exact ⟨rfl, b⟩)) (by simp only [List.set_cons_succ, List.set_cons_zero]; rfl) ?_
  refine oCall1 rfl rfl rfl rfl (c := .tuple #[.agg (uc V).toArray, .bool o]) 19 #[.agg (uc t).toArray, .agg (uc 1).toArray] (fun w => by go_simp) (fun w hw => (HA.out w).mono (by rintro e w' ⟨rfl, b⟩; exact ⟨rfl, b⟩)) (by simp only [List.set_cons_succ, List.set_cons_zero]; rfl) ?_
  refine oMove rfl rfl rfl rfl _ (.inl rfl) (by conv => lhs; whnf) (by simp only [List.set_cons_succ, List.set_cons_zero]; rfl) ?_
  refine oPure rfl rfl rfl rfl (c := .agg (uc V).toArray) (fun w _ => by go_simp; first | done | rfl) (by simp only [List.set_cons_succ, List.set_cons_zero]; rfl) ?_
  refine oPure rfl rfl rfl rfl (c := .bool o) (fun w _ => by go_simp; first | done | rfl) (by simp only [List.set_cons_succ, List.set_cons_zero]; rfl) ?_
  refine oAlloc rfl rfl (fun ρ w => by unfold execOp; go_simp; rfl) ?_
  refine oStore rfl rfl (fun w hw => fill_take rfl rfl fun v _ => fill_end fun b hb h0 => ?_) ?_
  · simp at hb
    subst hb
    exact bStoreRow h0 rfl _ _ _ rfl rfl rfl 4 rfl (by kernel_rfl) rfl
  refine oMove rfl rfl rfl rfl _ (.inr rfl) (by conv => lhs; whnf) (by simp only [List.set_cons_succ, List.set_cons_zero]; rfl) ?_
  refine oEnd fun w4 hw4 => fill_take rfl rfl fun v _ => fill_end fun hJ _ => ?_
  obtain ⟨gV, hb, hB, aV⟩ := hJ.at_ ⟨6, 5, 7, 39, uq4 0 0 0 0, uc V⟩ (List.mem_cons_self ..) rfl
  simp at hb
  subst hb
  replace aV : Av w4 gV 39 (uc V) := aV
  have b4 : Below w2.heap.size w2 w4 := hw4.nil
  have c4 := c2.trans (b4.mono (Nat.le_of_lt r2.lt))
  have a4 := a3.below b4
  have r4 := r2.below b4
  have gV2 : H < gV := Nat.lt_of_lt_of_le r2.lt hB
  clear hw4 hJ r2 a3 b4 hB
  simp only [List.set_cons_succ, List.set_cons_zero]
  cases o with
  | true =>
    have hRe : R = 1 := by rw [hR2.out, if_pos (by have := ho.out; simpa using this)]
    replace hRe := Lib.hid hRe
    have hHG : H ≤ H := Nat.le_refl _
    go_wp2_with (first
      | (go_at_call 28; refine (HO.out w4).mono ?_; rintro e w5 ⟨rfl, b5⟩; have c5 := c4.trans (b5.mono (Nat.le_of_lt r4.lt)); have r5 := r4.below b5)
      | ((with_reducible refine wpList_storeFA 39 c5 r5 hHG (uc 1) ?_ ?_ 4 ?_ ?_ ?_ ?_ ?_); rfl; rfl; rfl; kernel_rfl; rfl; rfl; intro w6 a6 b6 k6 z6; clear k6; replace z6 := Lib.hid z6))
    refine bodyPost_ret (results_cell_row rfl _ _ H _ _ (0, 0) _ (by rfl) a6 Tryd.underlying39 rfl (by kernel_rfl)) rfl ⟨by rw [hRe.out], by rw [← hH.out]; exact b6⟩
  | false =>
    have hno : ¬ 115792089237316195423570985008687907853269984665640564039457584007913129639936 ≤ t + 1 := by have := ho.out; simpa using this
    have hV1 : V = t + 1 := by rw [hV.out, Nat.mod_eq_of_lt (by omega)]
    have HN := UNot t ht
    obtain ⟨N, hN⟩ : ∃ N, N = 115792089237316195423570985008687907853269984665640564039457584007913129639936 - 1 - t := ⟨_, rfl⟩
    rw [← hN] at HN
    have HD := UDiv N V (by omega) (by omega) (by omega)
    obtain ⟨q, hq⟩ : ∃ q, q = N / V := ⟨_, rfl⟩
    obtain ⟨r, hr⟩ : ∃ r, r = N % V := ⟨_, rfl⟩
    have hql : q ≤ N := by rw [hq]; exact Nat.div_le_self _ _
    have HX := UAdd q 1 (by omega) (by omega)
    obtain ⟨X, hX⟩ : ∃ X, X = (q + 1) % 115792089237316195423570985008687907853269984665640564039457584007913129639936 := ⟨_, rfl⟩
    obtain ⟨ox, hox⟩ : ∃ o, o = decide (115792089237316195423570985008687907853269984665640564039457584007913129639936 ≤ q + 1) := ⟨_, rfl⟩
    rw [← hX, ← hox] at HX
    rw [← hq, ← hr] at HD
    have hRe : R = X := by rw [hR2.out, if_neg hno, hX, hq, hN, hV1]
    replace hRe := Lib.hid hRe
    replace HN := Lib.hid HN
    replace HD := Lib.hid HD
    replace HX := Lib.hid HX
    clear hX hox hq hr hql hN hV1 hno
    go_upto_region 7 with fail
    refine wp_region_relO [⟨8, 7, 10, 39, uq4 0 0 0 0, uc q⟩, ⟨9, 8, 11, 39, uq4 0 0 0 0, uc r⟩] [] (by kernel_rfl) (by kernel_rfl) (by kernel_rfl) (by kernel_rfl) (by kernel_rfl) (by intro e he; cases he) (by simp) (by intro e he; cases he) ?_
    refine oPure rfl rfl rfl rfl (c := .agg (uc t).toArray) (fun w hw => exec_loadAv (a4.below hw.nil) _ _ rfl rfl _ 4 rfl Tryd.underlying39 rfl (by kernel_rfl)) (by simp only [List.set_cons_succ, List.set_cons_zero]; rfl) ?_
    refine oCall1 rfl rfl rfl rfl (c := .agg (uc N).toArray) 30 #[.agg (uc t).toArray] (fun w => by go_simp) (fun w hw => (HN.out w).mono (by rintro e w' ⟨rfl, b⟩; exact ⟨rfl, b⟩)) (by simp only [List.set_cons_succ, List.set_cons_zero]; rfl) ?_
    refine oPure rfl rfl rfl rfl (c := .agg (uc V).toArray) (fun w hw => exec_loadAv (aV.below hw.nil) _ _ rfl rfl _ 4 rfl Tryd.underlying39 rfl (by kernel_rfl)) (by simp only [List.set_cons_succ, List.set_cons_zero]; rfl) ?_
    refine oCall1 rfl rfl rfl rfl (c := .tuple #[.agg (uc q).toArray, .agg (uc r).toArray, .bool true]) 29 #[.agg (uc N).toArray, .agg (uc V).toArray] (fun w => by go_simp) (fun w hw => (HD.out w).mono (by rintro e w' ⟨rfl, b⟩; exact ⟨rfl, b⟩)) (by simp only [List.set_cons_succ, List.set_cons_zero]; rfl) ?_
    refine oMove rfl rfl rfl rfl _ (.inl rfl) (by conv => lhs; whnf) (by simp only [List.set_cons_succ, List.set_cons_zero]; rfl) ?_
    refine oPure rfl rfl rfl rfl (c := .agg (uc q).toArray) (fun w _ => by go_simp; first | done | rfl) (by simp only [List.set_cons_succ, List.set_cons_zero]; rfl) ?_
    refine oPure rfl rfl rfl rfl (c := .agg (uc r).toArray) (fun w _ => by go_simp; first | done | rfl) (by simp only [List.set_cons_succ, List.set_cons_zero]; rfl) ?_
    refine oPure rfl rfl rfl rfl (c := .bool true) (fun w _ => by go_simp; first | done | rfl) (by simp only [List.set_cons_succ, List.set_cons_zero]; rfl) ?_
    refine oAlloc rfl rfl (fun ρ w => by unfold execOp; go_simp; rfl) ?_
    refine oAlloc rfl rfl (fun ρ w => by unfold execOp; go_simp; rfl) ?_
    refine oStore rfl rfl (fun w hw => fill_take rfl rfl fun v _ => fill_skip rfl (fill_end fun b hb h0 => ?_)) ?_
    · simp at hb
      subst hb
      exact bStoreRow h0 rfl _ _ _ rfl rfl rfl 4 rfl (by kernel_rfl) rfl
    refine oStore rfl rfl (fun w hw => fill_skip rfl (fill_take rfl rfl fun v _ => fill_end fun b hb h0 => ?_)) ?_
    · simp at hb
      subst hb
      exact bStoreRow h0 rfl _ _ _ rfl rfl rfl 4 rfl (by kernel_rfl) rfl
    refine oMove rfl rfl rfl rfl _ (.inr rfl) (by conv => lhs; whnf) (by simp only [List.set_cons_succ, List.set_cons_zero]; rfl) ?_
    refine oEnd fun w5 hw5 => fill_take rfl rfl fun v _ => fill_take rfl rfl fun v' _ => fill_end fun hJ _ => ?_
    obtain ⟨g7, hb, hB, a7⟩ := hJ.at_ ⟨8, 7, 10, 39, uq4 0 0 0 0, uc q⟩ (List.mem_cons_self ..) rfl
    obtain ⟨g8, hb', _, _⟩ := hJ.at_ ⟨9, 8, 11, 39, uq4 0 0 0 0, uc r⟩ (List.mem_cons_of_mem _ (List.mem_cons_self ..)) rfl
    simp at hb hb'
    subst hb hb'
    replace a7 : Av w5 g7 39 (uc q) := a7
    have b5 : Below w4.heap.size w4 w5 := hw5.nil
    have c5 := c4.trans (b5.mono (Nat.le_of_lt r4.lt))
    have r5 := r4.below b5
    have g7H : H < g7 := Nat.lt_of_lt_of_le r4.lt hB
    have g7H' : H ≤ g7 := Nat.le_of_lt g7H
    clear hw5 hJ r4 a4 b5 hB c4 aV
    simp only [List.set_cons_succ, List.set_cons_zero]
    go_upto_region 8 with fail
    refine wp_region_relO [] [Old.one g7 39 6 (uc q) (uc X)] (by kernel_rfl) (by kernel_rfl) (by kernel_rfl) (by kernel_rfl) (by kernel_rfl) (by intro e he; simp only [List.mem_cons, List.not_mem_nil, or_false] at he; subst he; exact Old.one_con _ _ _ _ _) (by simp) (by intro e he; simp only [List.mem_cons, List.not_mem_nil, or_false] at he; subst he; exact a7) ?_
    refine oPureJ rfl rfl rfl rfl (c := .agg (uc q).toArray) (fun w hw hJ => exec_loadAv (JN.one hJ (List.mem_cons_self ..) rfl rfl) _ _ rfl rfl _ 4 rfl Tryd.underlying39 rfl (by kernel_rfl)) (by simp only [List.set_cons_succ, List.set_cons_zero]; rfl) ?_
    refine oCall1 rfl rfl rfl rfl (c := .agg (uc 1).toArray) 28 #[.int .u64 1] (fun w => by go_simp) (fun w hw => (HO.out w).mono (by rintro e w' ⟨rfl, b⟩; exact ⟨rfl, b⟩)) (by simp only [List.set_cons_succ, List.set_cons_zero]; rfl) ?_
    refine oCall1 rfl rfl rfl rfl (c := .tuple #[.agg (uc X).toArray, .bool ox]) 19 #[.agg (uc q).toArray, .agg (uc 1).toArray] (fun w => by go_simp) (fun w hw => (HX.out w).mono (by rintro e w' ⟨rfl, b⟩; exact ⟨rfl, b⟩)) (by simp only [List.set_cons_succ, List.set_cons_zero]; rfl) ?_
    refine oMove rfl rfl rfl rfl _ (.inl rfl) (by conv => lhs; whnf) (by simp only [List.set_cons_succ, List.set_cons_zero]; rfl) ?_
    refine oPure rfl rfl rfl rfl (c := .agg (uc X).toArray) (fun w _ => by go_simp; first | done | rfl) (by simp only [List.set_cons_succ, List.set_cons_zero]; rfl) ?_
    refine oPure rfl rfl rfl rfl (c := .bool ox) (fun w _ => by go_simp; first | done | rfl) (by simp only [List.set_cons_succ, List.set_cons_zero]; rfl) ?_
    refine oOld rfl rfl rfl rfl (fun w hw => fill_end fun f hf h0 => ?_) ?_
    · exact oOldRow hf h0 rfl _ _ _ rfl rfl rfl 4 rfl (by kernel_rfl) rfl
    refine oEnd fun w6 hw6 => fill_end fun _ hO => ?_
    have a8 : Av w6 g7 39 (uc X) := hO (Old.one g7 39 6 (uc q) (uc X)) (List.mem_cons_self ..)
    have c6 := c5.trans (hw6.low (Nat.le_of_lt r5.lt) (by intro e he; simp only [List.mem_cons, List.not_mem_nil, or_false] at he; subst he; exact g7H'))
    have r6 : Av w6 H 39 (uq4 0 0 0 0) := Fo.av hw6 r5 (by intro e he; simp only [List.mem_cons, List.not_mem_nil, or_false] at he; subst he; simp only [Old.one]; omega)
    clear hw6 hO r5 a7 c5
    have hHG : H ≤ H := Nat.le_refl _
    go_wp2_with (first
      | ((with_reducible refine wpList_loadF 39 a8 ?_ _ 4 ?_ Tryd.underlying39 ?_ ?_ ?_); rfl; rfl; rfl; kernel_rfl)
      | ((with_reducible refine wpList_storeFA 39 c6 r6 hHG (uc X) ?_ ?_ 4 ?_ ?_ ?_ ?_ ?_); rfl; rfl; rfl; kernel_rfl; rfl; rfl; intro w7 a9 b9 k9 z9; clear k9; replace z9 := Lib.hid z9))
    refine bodyPost_ret (results_cell_row rfl _ _ H _ _ (0, 0) _ (by rfl) a9 Tryd.underlying39 rfl (by kernel_rfl)) rfl ⟨by rw [hRe.out], by rw [← hH.out]; exact b9⟩
theorem TWork (b : Nat) (hb : b < 4294967296) (w : World) :
    Calls Tryd.prog 20 #[.int .u32 (b : Int)] w fun e w' => e = .returned (.agg (uc (mWork b)).toArray) ∧ Below w.heap.size w w' := by
  cases h : mExp b with
  | none =>
    rw [show mWork b = 0 by rw [mWork, h]]
    exact TWork_no b hb h w
  | some t => exact TWork_yes b t hb h w
end Go.Proofs.YtijnkieakenipaaDoor
