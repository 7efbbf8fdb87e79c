/- florinref07.Same. -/
import Derived.Test.YtjgdmpbaikhflaaDoorHdL
import Derived.Test.YtjgdmpbaikhflaaDoorHdQ
namespace Go.Proofs.YtjgdmpbaikhflaaDoor
open Go.RowKit
theorem take_step {α : Type} {a b : List α} {k : Nat} {x y : α} (hx : a[k]? = some x) (hy : b[k]? = some y) (h : a.take k = b.take k) (e : x = y) : a.take (k + 1) = b.take (k + 1) := by
  rw [List.take_add_one, List.take_add_one, h, hx, hy, e]
set_option maxRecDepth 10000 in
set_option maxHeartbeats 1000000 in
theorem SameHd (a b : List Hd) (A B : Option Addr) (n m ca cb : Nat) (hna : a.length = n) (hnb : b.length = m) (hn : n ≤ 1000000) (hm : m ≤ 1000000) (w : World) (ra : RdHds w A a) (rb : RdHds w B b) :
    Calls Tryd.prog 19 #[.slice A n ca, .slice B m cb] w fun e w' => e = .returned (.bool (decide (a = b))) ∧ Below w.heap.size w w' := by
  by_cases hnm : n = m
  · subst hnm
    have t0 : ((n : Int) != (n : Int)) = false := by simp
    replace hna := Lib.hid hna
    replace hnb := Lib.hid hnb
    go_enter Tryd.func19, Tryd.ntmps19
    go_wp2
    go_loopw [5] (fun i wr => ∃ k : Nat, k ≤ n ∧ i = .int .i64 (k : Int) ∧ Hid (a.take k = b.take k) ∧ Below w.heap.size w wr) (fun i _ => n - (intOf i).toNat)
    case atStart => exact ⟨0, by omega, rfl, Lib.hid (by simp), Below.refl _ _⟩
    case round =>
      obtain ⟨k, hk, rfl, htk, hbw⟩ := hrel
      by_cases hlt : k < n
      · have t1 : decide ((k : Int) < (n : Int)) = true := by simp; omega
        obtain ⟨ba, oa, rfl⟩ := ra.adr (by rw [hna.out]; omega)
        obtain ⟨bb, ob, rfl⟩ := rb.adr (by rw [hnb.out]; omega)
        obtain ⟨x, hx⟩ : ∃ x, a[k]? = some x := ⟨_, List.getElem?_eq_getElem (by rw [hna.out]; exact hlt)⟩
        obtain ⟨y, hy⟩ : ∃ y, b[k]? = some y := ⟨_, List.getElem?_eq_getElem (by rw [hnb.out]; exact hlt)⟩
        have xok := (ra.nth k x hx).2
        have yok := (rb.nth k y hy).2
        have G1 := Lib.hid (fun w' (h : Below w.heap.size w w') => ((ra.below h).nth k x hx).1)
        have G2 := Lib.hid (fun w' (h : Below w.heap.size w w') => ((rb.below h).nth k y hy).1)
        have x68 := hdc_length xok
        have y68 := hdc_length yok
        have NH := fun p q w => neqHdg xok yok p q w
        obtain ⟨q, hq⟩ : ∃ q, q = decide (x = y) := ⟨_, rfl⟩
        rw [← hq] at NH
        replace NH := Lib.hid NH
        have n0 : 0 ≤ (k : Int) := by omega
        have n1 : (k : Int) < (n : Int) := by omega
        replace hx := Lib.hid hx
        replace hy := Lib.hid hy
        replace hq := Lib.hid hq
        go_wp2_with fail
        have H1 : ∀ w', Ext wr.drew w' → Below w.heap.size w w' := fun w' hE => hbw.trans (hE.drew.mono hbw.size)
        refine wp_region_rel [] Ext (by kernel_rfl) (by kernel_rfl) (by kernel_rfl) Ext.refl Ext.trans (by intro p hp; cases hp) ?_
        refine relMove Ext.refl rfl rfl rfl rfl _ (.inl rfl) (by conv => lhs; whnf) (by simp only [List.set_cons_succ, List.set_cons_zero]; rfl) ?_
        refine relMove Ext.refl rfl rfl rfl rfl _ (.inl rfl) (by conv => lhs; whnf) (by simp only [List.set_cons_succ, List.set_cons_zero]; rfl) ?_
        refine relPure Ext.refl rfl rfl rfl rfl (fun w _ => by go_simp; first | done | rfl) (by simp only [List.set_cons_succ, List.set_cons_zero]; rfl) ?_
        refine relPure Ext.refl rfl rfl rfl rfl (c := .agg (hdc x).toArray) (fun w hw => exec_load_mid _ _ rfl ba (oa + k * 68) rfl (hdc x) _ (G1.out _ (H1 w hw)) Tryd.underlying26 rfl (by rw [x68]; kernel_rfl)) (by simp only [List.set_cons_succ, List.set_cons_zero]; rfl) ?_
        refine relMove Ext.refl rfl rfl rfl rfl _ (.inl rfl) (by conv => lhs; whnf) (by simp only [List.set_cons_succ, List.set_cons_zero]; rfl) ?_
        refine relMove Ext.refl rfl rfl rfl rfl _ (.inl rfl) (by conv => lhs; whnf) (by simp only [List.set_cons_succ, List.set_cons_zero]; rfl) ?_
        refine relPure Ext.refl rfl rfl rfl rfl (fun w _ => by go_simp; first | done | rfl) (by simp only [List.set_cons_succ, List.set_cons_zero]; rfl) ?_
        refine relPure Ext.refl rfl rfl rfl rfl (c := .agg (hdc y).toArray) (fun w hw => exec_load_mid _ _ rfl bb (ob + k * 68) rfl (hdc y) _ (G2.out _ (H1 w hw)) Tryd.underlying26 rfl (by rw [y68]; kernel_rfl)) (by simp only [List.set_cons_succ, List.set_cons_zero]; rfl) ?_
        refine relBin Ext.refl rfl rfl rfl rfl _ _ _ _ _ rfl (by conv => lhs; whnf) (by conv => lhs; whnf) (c := .bool (!q)) (fun w => NH.out _ _ w) (by simp only [List.set_cons_succ, List.set_cons_zero]; rfl) ?_
        refine relEnd fun w2 hw2 => fill_end ?_
        have hb2 := H1 w2 hw2
        cases q
        · go_wp2
          go_ret
          refine ⟨?_, hb2⟩
          have hne : x ≠ y := fun e => by have := hq.out; rw [decide_eq_true e] at this; cases this
          rw [decide_eq_false (fun e => hne (by have h1 := hx.out; have h2 := hy.out; rw [e, h2] at h1; exact (Option.some.inj h1).symm))]
          rfl
        · go_wp2
          refine ⟨⟨k + 1, by omega, by go_num, Lib.hid (take_step hx.out hy.out htk.out (of_decide_eq_true hq.out.symm)), hb2⟩, ?_⟩
          simp [intOf]; omega
      · obtain rfl : k = n := by omega
        have t1 : decide ((k : Int) < (k : Int)) = false := by simp
        go_wp2
        go_ret
        refine ⟨?_, hbw⟩
        have h := htk.out
        rw [List.take_of_length_le (by rw [hna.out]; omega), List.take_of_length_le (by rw [hnb.out]; omega)] at h
        rw [decide_eq_true h]
        rfl
  · have t1 : ((n : Int) != (m : Int)) = true := by simp; omega
    rw [decide_eq_false (fun e => hnm (by rw [← hna, ← hnb, e]))]
    replace hna := Lib.hid hna
    replace hnb := Lib.hid hnb
    go_enter Tryd.func19, Tryd.ntmps19
    go_wp2
    go_ret
    exact ⟨rfl, Below.refl _ _⟩
end Go.Proofs.YtjgdmpbaikhflaaDoor
