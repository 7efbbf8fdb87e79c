/- Layer 4: the law 'what is put is got again': its walk. -/
import Derived.Test.YtkbjlbcofooajaaCOnce
namespace Go.Proofs.Ytkbjlbcofooajaa
open Go.RowKit
attribute [local go_sem high] slB_lh slB_l slB_h nilB_eq

theorem get_zero (l : List UInt8) (h : (Cm.get l).2.2 = 1) : Cm.get l = (0, 0, 1) := by
  obtain ⟨x, k, e, hq⟩ : ∃ x k e, Cm.get l = (x, k, e) := ⟨_, _, _, rfl⟩
  have hb := Cm.get_bad l (by omega)
  rw [hq] at h hb ⊢
  simp_all

set_option maxRecDepth 20000 in
set_option maxHeartbeats 2000000 in
theorem back_ok (n : Int) (h0 : 0 ≤ n) (h1 : n < 18446744073709551616) (bs : List UInt8) (A : Option Addr) (len c : Nat) (w : World) (hr : Rd w A (bs.map bv)) (hn : bs.length = len) (_hc : len ≤ c) (hm : (len : Int) ≤ 1000)
    (O : List UInt8) (hO : Cm.put n.toNat = O) (S : Nat) (hS : Cm.size n.toNat = S) :
    Calls Try.prog 3 #[.int .u64 n, .slice A len c] w fun e w' => e = .returned (.bool true) ∧ Below w.heap.size w w' := by
  have hlen : O.length = S := by rw [← hO, ← hS, Cm.put_length]
  have hS9 : S ≤ 9 ∧ 1 ≤ S := by have := Cm.size_le n.toNat; omega
  have HP := Lib.hid (fun w => compact_Put [] none 0 0 n h0 O (by simpa using hO) w (Rd.nil w none) rfl (by omega))
  have HP2 := Lib.hid (fun w (hr : Rd w A (bs.map bv)) => compact_Put bs A len c n h0 (bs ++ O) (by rw [hO]) w hr hn (by omega))
  have HS := Lib.hid (fun w => compact_Size n h0 w)
  rw [hS] at HS
  have hget : Cm.get (O ++ bs) = (n.toNat, S, 0) := by rw [← hO, Cm.get_put n.toNat (by omega), hS]
  have HG := Lib.hid (fun (A : Option Addr) (c : Nat) (w : World) (hr : Rd w A ((O ++ bs).map bv)) => by
    have h := compact_Get (O ++ bs) n.toNat S 0 hget A (S + len) c w hr (by rw [List.length_append, hlen, hn]) (by omega)
    rw [Int.toNat_of_nonneg h0] at h
    exact h)
  have HGi := Lib.hid (fun (i : Nat) (hi : i < S) (A : Option Addr) (c : Nat) (w : World) (hr : Rd w A (O.map bv)) =>
    compact_Get (O.take i) 0 0 1 (get_zero _ (by rw [← hO]; exact Cm.get_short n.toNat (by omega) i (by omega))) A i c w (by rw [List.map_take]; exact hr.take i) (by rw [List.length_take]; omega) (by omega))
  have Hl := Lib.hid hlen
  have Hn := Lib.hid hn
  have Hln := Lib.hid (show (bs ++ O).length = len + S by rw [List.length_append, hlen, hn])
  have hol : O.length ≤ 9 := by omega
  clear hO hS hlen hn hget
  clear h1
  go_enter Try.func3, Try.ntmps3
  go_wp2_with (go_at_call 8; refine (law_awake _).mono ?_; rintro e w1 ⟨rfl, hb1⟩; have hr1 := hr.below hb1)
  refine (HP.out _).mono ?_
  rintro e w2 ⟨v, rfl, ho, hb2⟩
  obtain ⟨Ap, cp, rfl, hcp, hcp2⟩ := ho.formN S Hl.out
  have hr2 := hr1.below hb2
  have hrp := ho.rd
  have hmade := OwnB.made w2 w2.heap.size (Nat.le_refl _) #[] 0 (by simp only [maxLen]; omega) rfl
  have hb3 := (Below.refl w2.heap.size w2).alloc (Nat.le_refl _) (.cells #[] 5)
  have hrp3 := hrp.below hb3
  have hr3 := hr2.below hb3
  go_wp2_with (first
    | (at_builtin; refine wpList_appB hmade hb3 (by simp) S cp hrp3 Hl.out (by simp; omega) rfl (.tmp 22) (.tmp 23) rfl rfl rfl ?_; intro v3 w3 ho3 hb4 hz4 hg4; have hr4 := hr2.below hb4; have hrp4 := hrp.below hb4)
    | (at_builtin; refine wpList_appB ho3 hb4 hb4.size len c hr4 Hn.out (by simp; omega) rfl (.tmp 25) (.tmp 26) rfl rfl rfl ?_; intro v5 w5 ho5 hb5 hz5 hg5; obtain ⟨A5, c5, rfl, hc5, hc6⟩ := ho5.formN (S + len) (by have := Hl.out; have := Hn.out; simp; omega))
    | (go_at_call 10; refine (HG.out A5 c5 w5 (by simpa using ho5.rd)).mono ?_; rintro e w' ⟨rfl, rfl⟩))
  have hr5 := hr2.below hb5
  have hrp5 := hrp.below hb5
  go_loop [11] (fun i => ∃ k : Nat, k ≤ S ∧ i = .int .i64 k) (fun i => S - (intOf i).toNat)
  case atStart => exact ⟨0, Nat.zero_le _, rfl⟩
  case round =>
    obtain ⟨k, hk, rfl⟩ := hrel
    by_cases hks : k < S
    · have hkc : (k : Int) ≤ (cp : Int) := by omega
      have hk0 : (0 : Int) ≤ (k : Int) := by omega
      go_wp2_with (go_at_call 10; refine (HGi.out k hks Ap cp _ hrp5).mono ?_; rintro e w' ⟨rfl, rfl⟩)
      go_round
      case rel => exact ⟨k + 1, by omega, by go_num⟩
      case measure => simp [intOf]; omega
    · obtain rfl : k = S := by omega
      go_wp2_with fail
      refine wp_region_rel [(25, SlW (bs ++ O))] Ext (by kernel_rfl) (by kernel_rfl) (by kernel_rfl) Ext.refl Ext.trans (by intro p hp v w w' hR; simp only [List.mem_singleton] at hp; subst hp; exact SlW.mono hR) ?_
      repeat (first
          | refine relMove Ext.refl rfl rfl rfl rfl _ (.inl rfl) (by conv => lhs; whnf) (by simp only [List.set_cons_succ, List.set_cons_zero]; rfl) ?_
          | refine relMove Ext.refl rfl rfl rfl rfl _ (.inr rfl) (by conv => lhs; whnf) (by simp only [List.set_cons_succ, List.set_cons_zero]; rfl) ?_
          | refine relPick Ext.refl rfl rfl rfl rfl _ _ _ rfl rfl (by conv => lhs; whnf) (by simp only [List.set_cons_succ, List.set_cons_zero]; rfl) ?_
          | refine relSkip rfl rfl rfl rfl (by simp only [List.set_cons_succ, List.set_cons_zero]; rfl) ?_
          | refine relBin Ext.refl rfl rfl rfl rfl _ _ _ _ _ rfl (by conv => lhs; whnf) (by conv => lhs; whnf) (fun w => by go_simp; first | done | rfl) (by simp only [List.set_cons_succ, List.set_cons_zero]; rfl) ?_
          | refine relPure Ext.refl rfl rfl rfl rfl (fun w _ => by go_simp; first | done | rfl) (by simp only [List.set_cons_succ, List.set_cons_zero]; rfl) ?_)
      refine relCall1 (c := .int .i64 (k : Int)) rfl rfl rfl rfl 11 #[.int .u64 n] (fun w => by go_simp) (fun w hw => (HS.out w).mono (by rintro e w' ⟨rfl, rfl⟩; exact ⟨rfl, Ext.refl _⟩)) (by simp only [List.set_cons_succ, List.set_cons_zero]; rfl) ?_
      repeat (first
          | refine relMove Ext.refl rfl rfl rfl rfl _ (.inl rfl) (by conv => lhs; whnf) (by simp only [List.set_cons_succ, List.set_cons_zero]; rfl) ?_
          | refine relMove Ext.refl rfl rfl rfl rfl _ (.inr rfl) (by conv => lhs; whnf) (by simp only [List.set_cons_succ, List.set_cons_zero]; rfl) ?_
          | refine relPick Ext.refl rfl rfl rfl rfl _ _ _ rfl rfl (by conv => lhs; whnf) (by simp only [List.set_cons_succ, List.set_cons_zero]; rfl) ?_
          | refine relSkip rfl rfl rfl rfl (by simp only [List.set_cons_succ, List.set_cons_zero]; rfl) ?_
          | refine relBin Ext.refl rfl rfl rfl rfl _ _ _ _ _ rfl (by conv => lhs; whnf) (by conv => lhs; whnf) (fun w => by go_simp; first | done | rfl) (by simp only [List.set_cons_succ, List.set_cons_zero]; rfl) ?_
          | refine relPure Ext.refl rfl rfl rfl rfl (fun w _ => by go_simp; first | done | rfl) (by simp only [List.set_cons_succ, List.set_cons_zero]; rfl) ?_)
      refine relCall _ rfl rfl rfl 9 #[.slice A len c, .int .u64 n] (fun w => by go_simp) (fun w hw => (HP2.out w (hr5.below hw.drew)).mono ?_) ?_
      · rintro e w' ⟨v, rfl, ho, hb⟩
        exact ⟨_, rfl, hb, SlW.own ho⟩
      refine relOn (c := .string ⟨(bs ++ O).toArray⟩) rfl rfl (fun w hw => fill_take rfl rfl fun v hv => fill_end (relOp_yes rfl (str_word hv _ rfl (by rw [eval_evL]; rfl)))) (by simp only [List.set_cons_succ, List.set_cons_zero]; rfl) ?_
      repeat (first
          | refine relMove Ext.refl rfl rfl rfl rfl _ (.inl rfl) (by conv => lhs; whnf) (by simp only [List.set_cons_succ, List.set_cons_zero]; rfl) ?_
          | refine relMove Ext.refl rfl rfl rfl rfl _ (.inr rfl) (by conv => lhs; whnf) (by simp only [List.set_cons_succ, List.set_cons_zero]; rfl) ?_
          | refine relPick Ext.refl rfl rfl rfl rfl _ _ _ rfl rfl (by conv => lhs; whnf) (by simp only [List.set_cons_succ, List.set_cons_zero]; rfl) ?_
          | refine relSkip rfl rfl rfl rfl (by simp only [List.set_cons_succ, List.set_cons_zero]; rfl) ?_
          | refine relBin Ext.refl rfl rfl rfl rfl _ _ _ _ _ rfl (by conv => lhs; whnf) (by conv => lhs; whnf) (fun w => by go_simp; first | done | rfl) (by simp only [List.set_cons_succ, List.set_cons_zero]; rfl) ?_
          | refine relPure Ext.refl rfl rfl rfl rfl (fun w _ => by go_simp; first | done | rfl) (by simp only [List.set_cons_succ, List.set_cons_zero]; rfl) ?_)
      refine relStr rfl rfl rfl rfl _ rfl (by conv => lhs; whnf) bs Hn.out (fun w hw => hr5.below hw.drew) (by simp only [List.set_cons_succ, List.set_cons_zero]; rfl) ?_
      repeat (first
          | refine relMove Ext.refl rfl rfl rfl rfl _ (.inl rfl) (by conv => lhs; whnf) (by simp only [List.set_cons_succ, List.set_cons_zero]; rfl) ?_
          | refine relMove Ext.refl rfl rfl rfl rfl _ (.inr rfl) (by conv => lhs; whnf) (by simp only [List.set_cons_succ, List.set_cons_zero]; rfl) ?_
          | refine relPick Ext.refl rfl rfl rfl rfl _ _ _ rfl rfl (by conv => lhs; whnf) (by simp only [List.set_cons_succ, List.set_cons_zero]; rfl) ?_
          | refine relSkip rfl rfl rfl rfl (by simp only [List.set_cons_succ, List.set_cons_zero]; rfl) ?_
          | refine relBin Ext.refl rfl rfl rfl rfl _ _ _ _ _ rfl (by conv => lhs; whnf) (by conv => lhs; whnf) (fun w => by go_simp; first | done | rfl) (by simp only [List.set_cons_succ, List.set_cons_zero]; rfl) ?_
          | refine relPure Ext.refl rfl rfl rfl rfl (fun w _ => by go_simp; first | done | rfl) (by simp only [List.set_cons_succ, List.set_cons_zero]; rfl) ?_)
      refine relStr rfl rfl rfl rfl _ rfl (by conv => lhs; whnf) O Hl.out (fun w hw => hrp5.below hw.drew) (by simp only [List.set_cons_succ, List.set_cons_zero]; rfl) ?_
      repeat (first
          | refine relMove Ext.refl rfl rfl rfl rfl _ (.inl rfl) (by conv => lhs; whnf) (by simp only [List.set_cons_succ, List.set_cons_zero]; rfl) ?_
          | refine relMove Ext.refl rfl rfl rfl rfl _ (.inr rfl) (by conv => lhs; whnf) (by simp only [List.set_cons_succ, List.set_cons_zero]; rfl) ?_
          | refine relPick Ext.refl rfl rfl rfl rfl _ _ _ rfl rfl (by conv => lhs; whnf) (by simp only [List.set_cons_succ, List.set_cons_zero]; rfl) ?_
          | refine relSkip rfl rfl rfl rfl (by simp only [List.set_cons_succ, List.set_cons_zero]; rfl) ?_
          | refine relBin Ext.refl rfl rfl rfl rfl _ _ _ _ _ rfl (by conv => lhs; whnf) (by conv => lhs; whnf) (fun w => by go_simp; first | done | rfl) (by simp only [List.set_cons_succ, List.set_cons_zero]; rfl) ?_
          | refine relPure Ext.refl rfl rfl rfl rfl (fun w _ => by go_simp; first | done | rfl) (by simp only [List.set_cons_succ, List.set_cons_zero]; rfl) ?_)
      refine relCat rfl rfl rfl rfl _ _ _ rfl bs O (by conv => lhs; whnf) (by conv => lhs; whnf) (by have := Hn.out; omega) (by simp only [List.set_cons_succ, List.set_cons_zero]; rfl) ?_
      repeat (first
          | refine relMove Ext.refl rfl rfl rfl rfl _ (.inl rfl) (by conv => lhs; whnf) (by simp only [List.set_cons_succ, List.set_cons_zero]; rfl) ?_
          | refine relMove Ext.refl rfl rfl rfl rfl _ (.inr rfl) (by conv => lhs; whnf) (by simp only [List.set_cons_succ, List.set_cons_zero]; rfl) ?_
          | refine relPick Ext.refl rfl rfl rfl rfl _ _ _ rfl rfl (by conv => lhs; whnf) (by simp only [List.set_cons_succ, List.set_cons_zero]; rfl) ?_
          | refine relSkip rfl rfl rfl rfl (by simp only [List.set_cons_succ, List.set_cons_zero]; rfl) ?_
          | refine relBin Ext.refl rfl rfl rfl rfl _ _ _ _ _ rfl (by conv => lhs; whnf) (by conv => lhs; whnf) (fun w => by go_simp; first | done | rfl) (by simp only [List.set_cons_succ, List.set_cons_zero]; rfl) ?_
          | refine relPure Ext.refl rfl rfl rfl rfl (fun w _ => by go_simp; first | done | rfl) (by simp only [List.set_cons_succ, List.set_cons_zero]; rfl) ?_)
      refine relEnd fun w6 hw6 => fill_take rfl rfl fun v hv => fill_end ?_
      simp only [List.set_cons_succ, List.set_cons_zero]
      go_wp2
      go_ret
      exact ⟨rfl, ((hb1.trans (hb2.mono hb1.size)).trans (hb5.mono (by have := hb1.size; have := hb2.size; omega))).trans (hw6.drew.mono (by have := hb1.size; have := hb2.size; have := hb5.size; omega))⟩
set_option maxHeartbeats 400000 in
theorem back_long (n : Int) (A : Option Addr) (len c : Nat) (w : World) (hm : 1000 < (len : Int)) :
    Calls Try.prog 3 #[.int .u64 n, .slice A len c] w fun e w' => e = .returned (.bool true) ∧ Below w.heap.size w w' := by
  go_enter Try.func3, Try.ntmps3
  go_wp2_with (go_at_call 8; refine (law_awake _).mono ?_; rintro e w1 ⟨rfl, hb1⟩)
  go_ret
  exact ⟨rfl, hb1⟩
theorem law_Back (n : Int) (h0 : 0 ≤ n) (h1 : n < 18446744073709551616) (bs : List UInt8) (A : Option Addr) (len c : Nat) (w : World) (hr : Rd w A (bs.map bv)) (hn : bs.length = len) (hc : len ≤ c) :
    Calls Try.prog 3 #[.int .u64 n, .slice A len c] w fun e w' => e = .returned (.bool true) ∧ Below w.heap.size w w' := by
  by_cases hm : (len : Int) ≤ 1000
  · exact back_ok n h0 h1 bs A len c w hr hn hc hm _ rfl _ rfl
  · exact back_long n A len c w (by omega)
end Go.Proofs.Ytkbjlbcofooajaa
