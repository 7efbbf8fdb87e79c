/- Layer 4: the law 'all is as the reference has it': its walk. -/
import Derived.Test.YtkbjlbcofooajaaCOnce
import Derived.Test.YtkbjlbcofooajaaCRef
namespace Go.Proofs.Ytkbjlbcofooajaa
open Go.RowKit
attribute [local go_sem high] slB_lh slB_l slB_h nilB_eq

set_option maxRecDepth 20000 in
set_option maxHeartbeats 4000000 in
theorem is_walk (bs : List UInt8) (A : Option Addr) (l c : Nat) (n : Int) (h0 : 0 ≤ n) (most : Int) (hlo : -9223372036854775808 ≤ most) (hmo : most ≤ 9223372036854775807)
    (X K E : Nat) (hg : Cm.get bs = (X, K, E)) (Z J G : Nat) (hb : Cm.bounded bs n.toNat = (Z, J, G)) (D : List UInt8) (M F : Nat) (hy : Cm.bytes bs most = (D, M, F)) (O : List UInt8) (hO : Cm.put n.toNat = O) (S : Nat) (hS : Cm.size n.toNat = S)
    (w : World) (hr : Rd w A (bs.map bv)) (hn : bs.length = l) (hc : l ≤ c) (hm : (l : Int) ≤ 1000) :
    Calls Try.prog 6 #[.slice A l c, .int .u64 n, .int .i64 most] w fun e w' => e = .returned (.bool true) ∧ Below w.heap.size w w' := by
  have H1 := Lib.hid (fun w (hr : Rd w A (bs.map bv)) => compact_Get bs X K E hg A l c w hr hn (by omega))
  have H2 := Lib.hid (fun w (hr : Rd w A (bs.map bv)) => ref04_Get bs X K E hg A l c w hr hn (by omega))
  have H3 := Lib.hid (fun w (hr : Rd w A (bs.map bv)) => compact_Bounded bs n h0 Z J G hb A l c w hr hn (by omega))
  have H4 := Lib.hid (fun w (hr : Rd w A (bs.map bv)) => ref04_Bounded bs n h0 Z J G hb A l c w hr hn (by omega))
  have H5 := Lib.hid (fun w (hr : Rd w A (bs.map bv)) => compact_Bytes bs most hlo hmo D M F hy A l c w hr hn hc (by omega))
  have H6 := Lib.hid (fun w (hr : Rd w A (bs.map bv)) => ref04_Bytes bs most hlo hmo D M F hy A l c w hr hn hc (by omega))
  have H7 := Lib.hid (fun w (hr : Rd w A (bs.map bv)) => compact_Put bs A l c n h0 (bs ++ O) (by rw [hO]) w hr hn (by omega))
  have H8 := Lib.hid (fun w (hr : Rd w A (bs.map bv)) => ref04_Put bs A l c n h0 (bs ++ O) (by rw [hO]) w hr hn (by omega))
  have H9 := Lib.hid (fun w => compact_Size n h0 w)
  have H10 := Lib.hid (fun w => ref04_Size n h0 w)
  rw [hS] at H9 H10
  clear hg hb hy hO hS hn hc hlo hmo h0
  obtain ⟨N, hN⟩ : ∃ N, D.length = N := ⟨_, rfl⟩
  have HN := Lib.hid hN
  clear hN
  go_enter Try.func6, Try.ntmps6
  go_wp2_with (first
    | (go_at_call 8; refine (law_awake _).mono ?_; rintro e w1 ⟨rfl, hb1⟩; have hr1 := hr.below hb1)
    | (go_at_call 10; refine (H1.out _ hr1).mono ?_; rintro e w' ⟨rfl, rfl⟩)
    | (go_at_call 13; refine (H2.out _ hr1).mono ?_; rintro e w' ⟨rfl, rfl⟩)
    | (go_at_call 12; refine (H3.out _ hr1).mono ?_; rintro e w' ⟨rfl, rfl⟩)
    | (go_at_call 14; refine (H4.out _ hr1).mono ?_; rintro e w' ⟨rfl, rfl⟩)
    | (go_at_call 15; refine (H5.out _ hr1).mono ?_; rintro e w2 ⟨v2, rfl, ho2, hb2⟩; obtain ⟨A2, c2, rfl, _, _⟩ := ho2.formN N HN.out; have hr2 := hr1.below hb2)
    | (go_at_call 16; refine (H6.out _ hr2).mono ?_; rintro e w3 ⟨v3, rfl, ho3, hb3⟩; obtain ⟨A3, c3, rfl, _, _⟩ := ho3.formN N HN.out; have hr3 := hr2.below hb3))
  have hx2 := ho2.rd.below hb3
  have hx3 := ho3.rd
  refine wp_region_rel [(51, SlW (bs ++ O)), (55, SlW (bs ++ O))] Ext (by kernel_rfl) (by kernel_rfl) (by kernel_rfl) Ext.refl Ext.trans (by intro p hp v w w' hR; simp only [List.mem_cons, List.not_mem_nil, or_false] at hp; rcases hp with rfl | rfl <;> exact SlW.mono hR) ?_
  repeat (first
      | refine relMove Ext.refl rfl rfl rfl rfl _ (.inl rfl) (by conv => lhs; whnf) (by simp only [List.set_cons_succ, List.set_cons_zero]; rfl) ?_
      | refine relMove Ext.refl rfl rfl rfl rfl _ (.inr rfl) (by conv => lhs; whnf) (by simp only [List.set_cons_succ, List.set_cons_zero]; rfl) ?_
      | refine relPick Ext.refl rfl rfl rfl rfl _ _ _ rfl rfl (by conv => lhs; whnf) (by simp only [List.set_cons_succ, List.set_cons_zero]; rfl) ?_
      | refine relSkip rfl rfl rfl rfl (by simp only [List.set_cons_succ, List.set_cons_zero]; rfl) ?_
      | refine relBin Ext.refl rfl rfl rfl rfl _ _ _ _ _ rfl (by conv => lhs; whnf) (by conv => lhs; whnf) (fun w => by go_simp; first | done | rfl) (by simp only [List.set_cons_succ, List.set_cons_zero]; rfl) ?_
      | refine relPure Ext.refl rfl rfl rfl rfl (fun w _ => by go_simp; first | done | rfl) (by simp only [List.set_cons_succ, List.set_cons_zero]; rfl) ?_)
  refine relStr rfl rfl rfl rfl _ rfl (by conv => lhs; whnf) D HN.out (fun w hw => hx2.below hw.drew) (by simp only [List.set_cons_succ, List.set_cons_zero]; rfl) ?_
  repeat (first
      | refine relMove Ext.refl rfl rfl rfl rfl _ (.inl rfl) (by conv => lhs; whnf) (by simp only [List.set_cons_succ, List.set_cons_zero]; rfl) ?_
      | refine relMove Ext.refl rfl rfl rfl rfl _ (.inr rfl) (by conv => lhs; whnf) (by simp only [List.set_cons_succ, List.set_cons_zero]; rfl) ?_
      | refine relPick Ext.refl rfl rfl rfl rfl _ _ _ rfl rfl (by conv => lhs; whnf) (by simp only [List.set_cons_succ, List.set_cons_zero]; rfl) ?_
      | refine relSkip rfl rfl rfl rfl (by simp only [List.set_cons_succ, List.set_cons_zero]; rfl) ?_
      | refine relBin Ext.refl rfl rfl rfl rfl _ _ _ _ _ rfl (by conv => lhs; whnf) (by conv => lhs; whnf) (fun w => by go_simp; first | done | rfl) (by simp only [List.set_cons_succ, List.set_cons_zero]; rfl) ?_
      | refine relPure Ext.refl rfl rfl rfl rfl (fun w _ => by go_simp; first | done | rfl) (by simp only [List.set_cons_succ, List.set_cons_zero]; rfl) ?_)
  refine relStr rfl rfl rfl rfl _ rfl (by conv => lhs; whnf) D HN.out (fun w hw => hx3.below hw.drew) (by simp only [List.set_cons_succ, List.set_cons_zero]; rfl) ?_
  repeat (first
      | refine relMove Ext.refl rfl rfl rfl rfl _ (.inl rfl) (by conv => lhs; whnf) (by simp only [List.set_cons_succ, List.set_cons_zero]; rfl) ?_
      | refine relMove Ext.refl rfl rfl rfl rfl _ (.inr rfl) (by conv => lhs; whnf) (by simp only [List.set_cons_succ, List.set_cons_zero]; rfl) ?_
      | refine relPick Ext.refl rfl rfl rfl rfl _ _ _ rfl rfl (by conv => lhs; whnf) (by simp only [List.set_cons_succ, List.set_cons_zero]; rfl) ?_
      | refine relSkip rfl rfl rfl rfl (by simp only [List.set_cons_succ, List.set_cons_zero]; rfl) ?_
      | refine relBin Ext.refl rfl rfl rfl rfl _ _ _ _ _ rfl (by conv => lhs; whnf) (by conv => lhs; whnf) (fun w => by go_simp; first | done | rfl) (by simp only [List.set_cons_succ, List.set_cons_zero]; rfl) ?_
      | refine relPure Ext.refl rfl rfl rfl rfl (fun w _ => by go_simp; first | done | rfl) (by simp only [List.set_cons_succ, List.set_cons_zero]; rfl) ?_)
  refine relCall _ rfl rfl rfl 9 #[.slice A l c, .int .u64 n] (fun w => by go_simp) (fun w hw => (H7.out w (hr3.below hw.drew)).mono (by rintro e w' ⟨v, rfl, ho, hb⟩; exact ⟨_, rfl, hb, SlW.own ho⟩)) ?_
  refine relOn (c := .string ⟨(bs ++ O).toArray⟩) rfl rfl (fun w hw => fill_take rfl rfl fun v hv => fill_skip rfl (fill_end (relOp_yes rfl (str_word hv _ rfl (by rw [eval_evL]; rfl))))) (by simp only [List.set_cons_succ, List.set_cons_zero]; rfl) ?_
  repeat (first
      | refine relMove Ext.refl rfl rfl rfl rfl _ (.inl rfl) (by conv => lhs; whnf) (by simp only [List.set_cons_succ, List.set_cons_zero]; rfl) ?_
      | refine relMove Ext.refl rfl rfl rfl rfl _ (.inr rfl) (by conv => lhs; whnf) (by simp only [List.set_cons_succ, List.set_cons_zero]; rfl) ?_
      | refine relPick Ext.refl rfl rfl rfl rfl _ _ _ rfl rfl (by conv => lhs; whnf) (by simp only [List.set_cons_succ, List.set_cons_zero]; rfl) ?_
      | refine relSkip rfl rfl rfl rfl (by simp only [List.set_cons_succ, List.set_cons_zero]; rfl) ?_
      | refine relBin Ext.refl rfl rfl rfl rfl _ _ _ _ _ rfl (by conv => lhs; whnf) (by conv => lhs; whnf) (fun w => by go_simp; first | done | rfl) (by simp only [List.set_cons_succ, List.set_cons_zero]; rfl) ?_
      | refine relPure Ext.refl rfl rfl rfl rfl (fun w _ => by go_simp; first | done | rfl) (by simp only [List.set_cons_succ, List.set_cons_zero]; rfl) ?_)
  refine relCall _ rfl rfl rfl 17 #[.slice A l c, .int .u64 n] (fun w => by go_simp) (fun w hw => (H8.out w (hr3.below hw.drew)).mono (by rintro e w' ⟨v, rfl, ho, hb⟩; exact ⟨_, rfl, hb, SlW.own ho⟩)) ?_
  refine relOn (c := .string ⟨(bs ++ O).toArray⟩) rfl rfl (fun w hw => fill_skip rfl (fill_take rfl rfl fun v hv => fill_end (relOp_yes rfl (str_word hv _ rfl (by rw [eval_evL]; rfl))))) (by simp only [List.set_cons_succ, List.set_cons_zero]; rfl) ?_
  repeat (first
      | refine relMove Ext.refl rfl rfl rfl rfl _ (.inl rfl) (by conv => lhs; whnf) (by simp only [List.set_cons_succ, List.set_cons_zero]; rfl) ?_
      | refine relMove Ext.refl rfl rfl rfl rfl _ (.inr rfl) (by conv => lhs; whnf) (by simp only [List.set_cons_succ, List.set_cons_zero]; rfl) ?_
      | refine relPick Ext.refl rfl rfl rfl rfl _ _ _ rfl rfl (by conv => lhs; whnf) (by simp only [List.set_cons_succ, List.set_cons_zero]; rfl) ?_
      | refine relSkip rfl rfl rfl rfl (by simp only [List.set_cons_succ, List.set_cons_zero]; rfl) ?_
      | refine relBin Ext.refl rfl rfl rfl rfl _ _ _ _ _ rfl (by conv => lhs; whnf) (by conv => lhs; whnf) (fun w => by go_simp; first | done | rfl) (by simp only [List.set_cons_succ, List.set_cons_zero]; rfl) ?_
      | refine relPure Ext.refl rfl rfl rfl rfl (fun w _ => by go_simp; first | done | rfl) (by simp only [List.set_cons_succ, List.set_cons_zero]; rfl) ?_)
  refine relCall1 (c := .int .i64 (S : Int)) rfl rfl rfl rfl 11 #[.int .u64 n] (fun w => by go_simp) (fun w hw => (H9.out w).mono (by rintro e w' ⟨rfl, rfl⟩; exact ⟨rfl, Ext.refl _⟩)) (by simp only [List.set_cons_succ, List.set_cons_zero]; rfl) ?_
  repeat (first
      | refine relMove Ext.refl rfl rfl rfl rfl _ (.inl rfl) (by conv => lhs; whnf) (by simp only [List.set_cons_succ, List.set_cons_zero]; rfl) ?_
      | refine relMove Ext.refl rfl rfl rfl rfl _ (.inr rfl) (by conv => lhs; whnf) (by simp only [List.set_cons_succ, List.set_cons_zero]; rfl) ?_
      | refine relPick Ext.refl rfl rfl rfl rfl _ _ _ rfl rfl (by conv => lhs; whnf) (by simp only [List.set_cons_succ, List.set_cons_zero]; rfl) ?_
      | refine relSkip rfl rfl rfl rfl (by simp only [List.set_cons_succ, List.set_cons_zero]; rfl) ?_
      | refine relBin Ext.refl rfl rfl rfl rfl _ _ _ _ _ rfl (by conv => lhs; whnf) (by conv => lhs; whnf) (fun w => by go_simp; first | done | rfl) (by simp only [List.set_cons_succ, List.set_cons_zero]; rfl) ?_
      | refine relPure Ext.refl rfl rfl rfl rfl (fun w _ => by go_simp; first | done | rfl) (by simp only [List.set_cons_succ, List.set_cons_zero]; rfl) ?_)
  refine relCall1 (c := .int .i64 (S : Int)) rfl rfl rfl rfl 18 #[.int .u64 n] (fun w => by go_simp) (fun w hw => (H10.out w).mono (by rintro e w' ⟨rfl, rfl⟩; exact ⟨rfl, Ext.refl _⟩)) (by simp only [List.set_cons_succ, List.set_cons_zero]; rfl) ?_
  repeat (first
      | refine relMove Ext.refl rfl rfl rfl rfl _ (.inl rfl) (by conv => lhs; whnf) (by simp only [List.set_cons_succ, List.set_cons_zero]; rfl) ?_
      | refine relMove Ext.refl rfl rfl rfl rfl _ (.inr rfl) (by conv => lhs; whnf) (by simp only [List.set_cons_succ, List.set_cons_zero]; rfl) ?_
      | refine relPick Ext.refl rfl rfl rfl rfl _ _ _ rfl rfl (by conv => lhs; whnf) (by simp only [List.set_cons_succ, List.set_cons_zero]; rfl) ?_
      | refine relSkip rfl rfl rfl rfl (by simp only [List.set_cons_succ, List.set_cons_zero]; rfl) ?_
      | refine relBin Ext.refl rfl rfl rfl rfl _ _ _ _ _ rfl (by conv => lhs; whnf) (by conv => lhs; whnf) (fun w => by go_simp; first | done | rfl) (by simp only [List.set_cons_succ, List.set_cons_zero]; rfl) ?_
      | refine relPure Ext.refl rfl rfl rfl rfl (fun w _ => by go_simp; first | done | rfl) (by simp only [List.set_cons_succ, List.set_cons_zero]; rfl) ?_)
  refine relEnd fun w8 hw8 => fill_take rfl rfl fun v hv => fill_take rfl rfl fun v' hv' => fill_end ?_
  simp only [List.set_cons_succ, List.set_cons_zero]
  go_wp2
  go_ret
  have z1 := hb1.size
  have z2 := hb2.size
  have z3 := hb3.size
  exact ⟨rfl, ((hb1.trans (hb2.mono z1)).trans (hb3.mono (by omega))).trans (hw8.drew.mono (by omega))⟩
set_option maxHeartbeats 400000 in
theorem is_long (A : Option Addr) (l c : Nat) (n most : Int) (w : World) (hm : 1000 < (l : Int)) :
    Calls Try.prog 6 #[.slice A l c, .int .u64 n, .int .i64 most] w fun e w' => e = .returned (.bool true) ∧ Below w.heap.size w w' := by
  go_enter Try.func6, Try.ntmps6
  go_wp2_with (go_at_call 8; refine (law_awake _).mono ?_; rintro e w1 ⟨rfl, hb1⟩)
  go_ret
  exact ⟨rfl, hb1⟩
theorem law_Is (bs : List UInt8) (A : Option Addr) (l c : Nat) (n : Int) (h0 : 0 ≤ n) (_h1 : n < 18446744073709551616) (most : Int) (hlo : -9223372036854775808 ≤ most) (hmo : most ≤ 9223372036854775807)
    (w : World) (hr : Rd w A (bs.map bv)) (hn : bs.length = l) (hc : l ≤ c) :
    Calls Try.prog 6 #[.slice A l c, .int .u64 n, .int .i64 most] w fun e w' => e = .returned (.bool true) ∧ Below w.heap.size w w' := by
  by_cases hm : (l : Int) ≤ 1000
  · exact is_walk bs A l c n h0 most hlo hmo _ _ _ rfl _ _ _ rfl _ _ _ rfl _ rfl _ rfl w hr hn hc hm
  · exact is_long A l c n most w (by omega)
end Go.Proofs.Ytkbjlbcofooajaa
