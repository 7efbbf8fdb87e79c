/- Layer 4: the law 'what is got is put so': its walk. -/
import Derived.Test.YtkbjlbcofooajaaCLaw0
import Derived.Test.YtkbjlbcofooajaaStr
namespace Go.Proofs.Ytkbjlbcofooajaa
open Go.RowKit
attribute [local go_sem high] slB_lh slB_l slB_h nilB_eq

/-- a slice of bytes that came in -/
theorem row_bytes {w : World} {a : Option Addr} {len cap : Nat} {zs : List Int}
    (h : (a = none ∧ len = 0 ∧ cap = 0 ∧ zs = []) ∨ ∃ x, a = some x ∧ len ≤ cap ∧ cap ≤ maxLen ∧ zs.length = cap ∧ (∀ i, i < zs.length → w.cell? (x.add i) = some (.int .u8 (zs.getD i 0))) ∧ ∀ n ∈ zs, (Lit.int .u8 n).wf = true) :
    ∃ bs : List UInt8, bs.length = len ∧ len ≤ cap ∧ cap ≤ maxLen ∧ Rd w a (bs.map bv) := by
  rcases h with ⟨rfl, rfl, rfl, rfl⟩ | ⟨x, rfl, hl, hm, hz, hc, hw⟩
  · exact ⟨[], rfl, Nat.le_refl _, by simp [maxLen], Rd.nil _ _⟩
  · refine ⟨(zs.take len).map fun n => UInt8.ofNat n.toNat, by rw [List.length_map, List.length_take]; omega, hl, hm, ?_⟩
    by_cases h0 : zs.length = 0
    · have : zs = [] := List.eq_nil_of_length_eq_zero h0
      subst this
      simp
      exact Rd.nil _ _
    · have hx : x = ⟨x.block, x.off, none⟩ := by
        have := hc 0 (by omega)
        have hs : x.spot = none := by
          cases hsp : x.spot with
          | none => rfl
          | some s =>
            simp [World.cell?, Addr.add, hsp] at this
            split at this <;> simp at this
        cases x
        simp_all
      refine .inr ⟨x.block, x.off, by rw [← hx], fun j u hu => ?_⟩
      simp only [List.map_map, List.getElem?_map, List.getElem?_take] at hu
      split at hu
      · cases hz2 : zs[j]? with
        | none => rw [hz2] at hu; simp at hu
        | some n =>
          rw [hz2] at hu
          have hj := (List.getElem?_eq_some_iff.1 hz2).1
          have hcj := hc j hj
          rw [hx, addr_add] at hcj
          rw [hcj]
          have hn := hw n (List.mem_of_getElem? hz2)
          have hb : 0 ≤ n ∧ n ≤ 255 := by simpa [Lit.wf, IntKind.min, IntKind.max, IntKind.signed, IntKind.bits] using hn
          have hg : zs.getD j 0 = n := by simp [List.getD, hz2]
          simp only [Option.map_some, Option.some.injEq, Function.comp] at hu
          have e : ((UInt8.ofNat n.toNat).toNat : Int) = n := by rw [Cm.u8_ofNat n.toNat (by omega)]; omega
          rw [hg, ← hu, bv, e]
      · simp at hu

set_option maxRecDepth 20000 in
set_option maxHeartbeats 1000000 in
theorem once_ok (bs : List UInt8) (X K : Nat) (hg : Cm.get bs = (X, K, 0)) (A : Option Addr) (n c : Nat) (w : World) (hr : Rd w A (bs.map bv)) (hn : bs.length = n) (hc : n ≤ c) (hm : (n : Int) ≤ 1000) :
    Calls Try.prog 4 #[.slice A n c] w fun e w' => e = .returned (.bool true) ∧ Below w.heap.size w w' := by
  have hp := Cm.put_get bs (by rw [hg])
  rw [hg] at hp
  obtain ⟨p1, p2, p3, p4, p5⟩ := hp
  dsimp only at p1 p2 p3 p4 p5
  have hz : (K : Int) ≤ n := by omega
  have hz1 : (1 : Int) ≤ (K : Int) := by omega
  have hz2 : (0 : Int) ≤ (K : Int) := by omega
  have hz3 : (K : Int) ≤ (c : Int) := by omega
  have hX : 0 ≤ (X : Int) := by omega
  have HP := Lib.hid p1
  have HG := Lib.hid hg
  have Hn := Lib.hid hn
  have Hk := Lib.hid (show (bs.take K).length = K by rw [List.length_take]; omega)
  clear hg hn p1 p5 p4 p3 p2
  go_enter Try.func4, Try.ntmps4
  go_wp2_with (first
    | (go_at_call 8; refine (law_awake _).mono ?_; rintro e w1 ⟨rfl, hb1⟩; have hr1 := hr.below hb1)
    | (go_at_call 10; refine (compact_Get bs X K 0 HG.out A n c _ hr1 Hn.out (by omega)).mono ?_; rintro e w' ⟨rfl, rfl⟩))
  have H3 := Lib.hid (fun w => compact_Put [] none 0 0 X hX (bs.take K) (by simpa using HP.out) w (Rd.nil w none) rfl (by omega))
  refine wp_region_rel [(13, SlW (bs.take K))] Ext (by kernel_rfl) (by kernel_rfl) (by kernel_rfl) Ext.refl Ext.trans (by intro p hp v w w' hR; simp only [List.mem_singleton] at hp; subst hp; exact SlW.mono hR) ?_
  repeat (first
      | refine relMove Ext.refl rfl rfl rfl rfl _ (.inl rfl) (by conv => lhs; whnf) (by simp only [List.set_cons_succ, List.set_cons_zero]; rfl) ?_
      | refine relMove Ext.refl rfl rfl rfl rfl _ (.inr rfl) (by conv => lhs; whnf) (by simp only [List.set_cons_succ, List.set_cons_zero]; rfl) ?_
      | refine relPick Ext.refl rfl rfl rfl rfl _ _ _ rfl rfl (by conv => lhs; whnf) (by simp only [List.set_cons_succ, List.set_cons_zero]; rfl) ?_
      | refine relSkip rfl rfl rfl rfl (by simp only [List.set_cons_succ, List.set_cons_zero]; rfl) ?_
      | refine relBin Ext.refl rfl rfl rfl rfl _ _ _ _ _ rfl (by conv => lhs; whnf) (by conv => lhs; whnf) (fun w => by go_simp; first | done | rfl) (by simp only [List.set_cons_succ, List.set_cons_zero]; rfl) ?_
      | refine relPure Ext.refl rfl rfl rfl rfl (fun w _ => by go_simp; first | done | rfl) (by simp only [List.set_cons_succ, List.set_cons_zero]; rfl) ?_)
  refine relCall _ rfl rfl rfl 9 #[.slice none 0 0, .int .u64 (X : Int)] (fun w => by go_simp) (fun w hw => (H3.out w).mono ?_) ?_
  · rintro e w' ⟨v, rfl, ho, hb⟩
    exact ⟨_, rfl, hb, SlW.own ho⟩
  refine relOn (c := .string ⟨(bs.take K).toArray⟩) rfl rfl (fun w hw => fill_take rfl rfl fun v hv => fill_end (relOp_yes rfl (str_word hv _ rfl (by rw [eval_evL]; rfl)))) (by simp only [List.set_cons_succ, List.set_cons_zero]; rfl) ?_
  repeat (first
      | refine relMove Ext.refl rfl rfl rfl rfl _ (.inl rfl) (by conv => lhs; whnf) (by simp only [List.set_cons_succ, List.set_cons_zero]; rfl) ?_
      | refine relMove Ext.refl rfl rfl rfl rfl _ (.inr rfl) (by conv => lhs; whnf) (by simp only [List.set_cons_succ, List.set_cons_zero]; rfl) ?_
      | refine relPick Ext.refl rfl rfl rfl rfl _ _ _ rfl rfl (by conv => lhs; whnf) (by simp only [List.set_cons_succ, List.set_cons_zero]; rfl) ?_
      | refine relSkip rfl rfl rfl rfl (by simp only [List.set_cons_succ, List.set_cons_zero]; rfl) ?_
      | refine relBin Ext.refl rfl rfl rfl rfl _ _ _ _ _ rfl (by conv => lhs; whnf) (by conv => lhs; whnf) (fun w => by go_simp; first | done | rfl) (by simp only [List.set_cons_succ, List.set_cons_zero]; rfl) ?_
      | refine relPure Ext.refl rfl rfl rfl rfl (fun w _ => by go_simp; first | done | rfl) (by simp only [List.set_cons_succ, List.set_cons_zero]; rfl) ?_)
  refine relStr rfl rfl rfl rfl _ rfl (by conv => lhs; whnf) (bs.take K) Hk.out (fun w hw => by rw [List.map_take]; exact (hr1.below hw.drew).take K) (by simp only [List.set_cons_succ, List.set_cons_zero]; rfl) ?_
  repeat (first
      | refine relMove Ext.refl rfl rfl rfl rfl _ (.inl rfl) (by conv => lhs; whnf) (by simp only [List.set_cons_succ, List.set_cons_zero]; rfl) ?_
      | refine relMove Ext.refl rfl rfl rfl rfl _ (.inr rfl) (by conv => lhs; whnf) (by simp only [List.set_cons_succ, List.set_cons_zero]; rfl) ?_
      | refine relPick Ext.refl rfl rfl rfl rfl _ _ _ rfl rfl (by conv => lhs; whnf) (by simp only [List.set_cons_succ, List.set_cons_zero]; rfl) ?_
      | refine relSkip rfl rfl rfl rfl (by simp only [List.set_cons_succ, List.set_cons_zero]; rfl) ?_
      | refine relBin Ext.refl rfl rfl rfl rfl _ _ _ _ _ rfl (by conv => lhs; whnf) (by conv => lhs; whnf) (fun w => by go_simp; first | done | rfl) (by simp only [List.set_cons_succ, List.set_cons_zero]; rfl) ?_
      | refine relPure Ext.refl rfl rfl rfl rfl (fun w _ => by go_simp; first | done | rfl) (by simp only [List.set_cons_succ, List.set_cons_zero]; rfl) ?_)
  refine relEnd fun w2 hw2 => fill_take rfl rfl fun v hv => fill_end ?_
  simp only [List.set_cons_succ, List.set_cons_zero]
  go_wp2
  go_ret
  exact ⟨rfl, hb1.trans (hw2.drew.mono hb1.size)⟩

set_option maxHeartbeats 400000 in
theorem once_bad (bs : List UInt8) (X K E : Nat) (hX : X = 0) (hK : K = 0) (hE : ((E : Int) != 0) = true) (hg : Cm.get bs = (X, K, E)) (A : Option Addr) (n c : Nat) (w : World) (hr : Rd w A (bs.map bv)) (hn : bs.length = n) (hm : (n : Int) ≤ 1000) :
    Calls Try.prog 4 #[.slice A n c] w fun e w' => e = .returned (.bool true) ∧ Below w.heap.size w w' := by
  subst hX hK
  have HG := Lib.hid hg
  have Hn := Lib.hid hn
  clear hg hn
  go_enter Try.func4, Try.ntmps4
  go_wp2_with (first
    | (go_at_call 8; refine (law_awake _).mono ?_; rintro e w1 ⟨rfl, hb1⟩; have hr1 := hr.below hb1)
    | (go_at_call 10; refine (compact_Get bs 0 0 E HG.out A n c _ hr1 Hn.out (by omega)).mono ?_; rintro e w' ⟨rfl, rfl⟩))
  go_ret
  exact ⟨rfl, hb1⟩
set_option maxHeartbeats 400000 in
theorem once_long (A : Option Addr) (n c : Nat) (w : World) (hm : 1000 < (n : Int)) :
    Calls Try.prog 4 #[.slice A n c] w fun e w' => e = .returned (.bool true) ∧ Below w.heap.size w w' := by
  go_enter Try.func4, Try.ntmps4
  go_wp2_with (go_at_call 8; refine (law_awake _).mono ?_; rintro e w1 ⟨rfl, hb1⟩)
  go_ret
  exact ⟨rfl, hb1⟩
theorem law_Once (bs : List UInt8) (A : Option Addr) (n c : Nat) (w : World) (hr : Rd w A (bs.map bv)) (hn : bs.length = n) (hc : n ≤ c) :
    Calls Try.prog 4 #[.slice A n c] w fun e w' => e = .returned (.bool true) ∧ Below w.heap.size w w' := by
  by_cases hm : (n : Int) ≤ 1000
  · obtain ⟨X, K, E, hg⟩ : ∃ X K E, Cm.get bs = (X, K, E) := ⟨_, _, _, rfl⟩
    by_cases hE : E = 0
    · subst hE
      exact once_ok bs X K hg A n c w hr hn hc hm
    · have h := Cm.get_bad bs (by rw [hg]; exact hE)
      rw [hg] at h
      exact once_bad bs X K E h.1 h.2 (by simp; omega) hg A n c w hr hn hm
  · exact once_long A n c w (by omega)
end Go.Proofs.Ytkbjlbcofooajaa
