/- tx.Get's source: take, count, script; number. -/
import Derived.Test.YtopgljkfoogihaaDoorPr2
import Derived.Test.YtopgljkfoogihaaDoorCGet
import Derived.Test.YtopgljkfoogihaaDoorPr3
import Derived.Test.YtopgljkfoogihaaDoorCBytes
import Derived.Test.YtopgljkfoogihaaDoorRelT
import Derived.Test.YtopgljkfoogihaaDoorStr
import Derived.Deep.Cut
namespace Go.Proofs.YtopgljkfoogihaaDoor
open Go.RowKit
attribute [local go_sem high] slB_lh slB_l slB_h

/-- the cells of a source -/
abbrev srcc (A : Option Addr) (n c a e : Nat) : List Value := [.slice A n c, .int .i64 (a : Int), .int .i64 (e : Int)]
/-- what take, count and script do: what they tell, how far the source is then, its error -/
def sTake (bs : List UInt8) (a e sz : Nat) : List UInt8 × Nat × Nat :=
  if e ≠ 0 then ([], a, e) else if bs.length - a < sz then ([], a, 1) else ((bs.drop a).take sz, a + sz, 0)
def sCount (bs : List UInt8) (a e most : Nat) : Nat × Nat × Nat :=
  if e ≠ 0 then (0, a, e) else ((Cm.bounded (bs.drop a) most).1, a + (Cm.bounded (bs.drop a) most).2.1, (Cm.bounded (bs.drop a) most).2.2)
def sScript (bs : List UInt8) (a e : Nat) : List UInt8 × Nat × Nat :=
  if e ≠ 0 then ([], a, e) else ((Cm.bytes (bs.drop a) 10000).1, a + (Cm.bytes (bs.drop a) 10000).2.1, (Cm.bytes (bs.drop a) 10000).2.2)
/-- what is told of a slice that take hands out -/
def OutOf (A : Option Addr) (bs x : List UInt8) (v : Value) : Prop := ∃ (A' : Option Addr) (c' : Nat), v = .slice A' x.length c' ∧ x.length ≤ c' ∧ ∀ w0, Rd w0 A (bs.map bv) → Rd w0 A' (x.map bv)
/-- the world behind a method of the source -/
def SrcTo (gs : Nat) (cells : List Value) (w w' : World) : Prop := Av w' gs 72 cells ∧ Fr (fun k => k = gs) w w'

theorem bounded_snd (l : List UInt8) (most : Nat) : (Cm.bounded l most).2.1 ≤ 9 := by
  have hg : (Cm.get l).2.1 ≤ 9 := by
    unfold Cm.get
    cases l with
    | nil => simp
    | cons b r =>
      dsimp only
      have hb : Cm.behind b ≤ 8 := by rcases Cm.behind_cases b with h | h | h | h <;> omega
      split
      · simp
      · split
        · simp
        · split
          · simp
          · simp only; omega
  unfold Cm.bounded
  split
  · simp
  · split
    · simp
    · exact hg
theorem bounded_fst (l : List UInt8) (most : Nat) : (Cm.bounded l most).1 ≤ most := by
  unfold Cm.bounded
  split
  · simp
  · split
    · simp
    · omega
theorem bytes_snd (l : List UInt8) : (Cm.bytes l 10000).2.1 ≤ 20000 := by
  have h1 := bounded_snd l 10000
  have h2 := bounded_fst l 10000
  unfold Cm.bytes
  simp only [show (10000 : Int).toNat = 10000 from rfl]
  split
  · simp
  · split
    · simp
    · split
      · simp
      · simp only; omega

set_option maxRecDepth 10000 in
set_option maxHeartbeats 1000000 in
theorem TTake (bs : List UInt8) (A : Option Addr) (n c : Nat) (hn : bs.length = n) (hnc : n ≤ c) (hm : n ≤ 1000000000000) (a e sz : Nat) (ha : a ≤ n) (hsz : sz ≤ 100) (gs : Nat) (w : World) (hA : Av w gs 72 (srcc A n c a e)) :
    Calls Tryd.prog 30 #[.pointer (some ⟨gs, 0, none⟩), .int .i64 (sz : Int)] w fun r w' => (∃ v, r = .returned v ∧ OutOf A bs (sTake bs a e sz).1 v) ∧ SrcTo gs (srcc A n c (sTake bs a e sz).2.1 (sTake bs a e sz).2.2) w w' := by
  unfold srcc at hA
  by_cases he : e = 0
  · subst he
    by_cases hsh : n - a < sz
    · rw [show sTake bs a 0 sz = ([], a, 1) by rw [sTake, if_neg (by simp), if_pos (by rw [hn]; exact hsh)]]
      have t1 : decide ((n : Int) - (a : Int) < (sz : Int)) = true := by simp; omega
      have e1 : IntKind.i64.wrap ((n : Int) - (a : Int)) = (n : Int) - (a : Int) := by rw [IntKind.wrap_i64]; omega
      clear hn
      go_enter Tryd.func30, Tryd.ntmps30
      go_wp2
      refine wp_region_rel [] Ext (by kernel_rfl) (by kernel_rfl) (by kernel_rfl) Ext.refl Ext.trans (by intro p hp; cases hp) ?_
      refine relMove Ext.refl rfl rfl rfl rfl _ (.inl rfl) (by conv => lhs; whnf) (by simp only [List.set_cons_succ, List.set_cons_zero]; rfl) ?_
      refine relPure Ext.refl rfl rfl rfl rfl (fun w _ => by go_simp; first | done | rfl) (by simp only [List.set_cons_succ, List.set_cons_zero]; rfl) ?_
      refine relPure Ext.refl rfl rfl rfl rfl (fun w _ => by go_simp; first | done | rfl) (by simp only [List.set_cons_succ, List.set_cons_zero]; rfl) ?_
      refine relPure Ext.refl rfl rfl rfl rfl (c := .int .i64 0) (fun w hw => by have := (hA.below hw.drew).cell 2 _ rfl; go_simp; first | done | rfl) (by simp only [List.set_cons_succ, List.set_cons_zero]; rfl) ?_
      refine relPure Ext.refl rfl rfl rfl rfl (fun w _ => by go_simp; first | done | rfl) (by simp only [List.set_cons_succ, List.set_cons_zero]; rfl) ?_
      refine relMove Ext.refl rfl rfl rfl rfl _ (.inl rfl) (by conv => lhs; whnf) (by simp only [List.set_cons_succ, List.set_cons_zero]; rfl) ?_
      refine relMove Ext.refl rfl rfl rfl rfl _ (.inl rfl) (by conv => lhs; whnf) (by simp only [List.set_cons_succ, List.set_cons_zero]; rfl) ?_
      refine relPure Ext.refl rfl rfl rfl rfl (fun w _ => by go_simp; first | done | rfl) (by simp only [List.set_cons_succ, List.set_cons_zero]; rfl) ?_
      refine relPure Ext.refl rfl rfl rfl rfl (fun w _ => by go_simp; first | done | rfl) (by simp only [List.set_cons_succ, List.set_cons_zero]; rfl) ?_
      refine relPure Ext.refl rfl rfl rfl rfl (c := .slice A n c) (fun w hw => by have := (hA.below hw.drew).cell 0 _ rfl; go_simp; first | done | rfl) (by simp only [List.set_cons_succ, List.set_cons_zero]; rfl) ?_
      refine relPure Ext.refl rfl rfl rfl rfl (fun w _ => by go_simp; first | done | rfl) (by simp only [List.set_cons_succ, List.set_cons_zero]; rfl) ?_
      refine relMove Ext.refl rfl rfl rfl rfl _ (.inl rfl) (by conv => lhs; whnf) (by simp only [List.set_cons_succ, List.set_cons_zero]; rfl) ?_
      refine relPure Ext.refl rfl rfl rfl rfl (fun w _ => by go_simp; first | done | rfl) (by simp only [List.set_cons_succ, List.set_cons_zero]; rfl) ?_
      refine relPure Ext.refl rfl rfl rfl rfl (fun w _ => by go_simp; first | done | rfl) (by simp only [List.set_cons_succ, List.set_cons_zero]; rfl) ?_
      refine relPure Ext.refl rfl rfl rfl rfl (c := .int .i64 (a : Int)) (fun w hw => by have := (hA.below hw.drew).cell 1 _ rfl; go_simp; first | done | rfl) (by simp only [List.set_cons_succ, List.set_cons_zero]; rfl) ?_
      refine relPure Ext.refl rfl rfl rfl rfl (fun w _ => by go_simp; first | done | rfl) (by simp only [List.set_cons_succ, List.set_cons_zero]; rfl) ?_
      refine relMove Ext.refl rfl rfl rfl rfl _ (.inl rfl) (by conv => lhs; whnf) (by simp only [List.set_cons_succ, List.set_cons_zero]; rfl) ?_
      refine relPure Ext.refl rfl rfl rfl rfl (fun w _ => by go_simp; first | done | rfl) (by simp only [List.set_cons_succ, List.set_cons_zero]; rfl) ?_
      refine relPick Ext.refl rfl rfl rfl rfl _ _ _ rfl rfl (by conv => lhs; whnf) (by simp only [List.set_cons_succ, List.set_cons_zero]; rfl) ?_
      refine relEnd fun w2 hw2 => fill_end ?_
      have hA2 := hA.below hw2.drew
      have hc2 := hA2.cell 2 _ rfl
      have hf2 := frozen_of_row _ _ 2 _ _ hA2
      go_wp2
      go_ret
      exact ⟨⟨_, rfl, none, 0, rfl, Nat.le_refl _, fun w0 _ => Rd.nil _ _⟩, hA2.set 2 _, (Below.fr hw2.drew).trans (Fr.setCell w2 ⟨gs, 2, none⟩ (.int .i64 1))⟩
    · rw [show sTake bs a 0 sz = ((bs.drop a).take sz, a + sz, 0) by rw [sTake, if_neg (by simp), if_neg (by rw [hn]; exact hsh)]]
      have t1 : decide ((n : Int) - (a : Int) < (sz : Int)) = false := by simp; omega
      have e1 : IntKind.i64.wrap ((n : Int) - (a : Int)) = (n : Int) - (a : Int) := by rw [IntKind.wrap_i64]; omega
      have hxl : ((bs.drop a).take sz).length = sz := by rw [List.length_take, List.length_drop, hn]; omega
      have hrd : ∀ w0, Rd w0 A (bs.map bv) → Rd w0 (subA A c a 1) (((bs.drop a).take sz).map bv) := fun w0 h => by
        have := (h.sub c a 1 (by rw [List.length_map, hn]; omega)).take sz
        rw [Nat.mul_one] at this
        rw [List.map_take, List.map_drop]
        exact this
      obtain ⟨a2, ha2⟩ : ∃ a2, a2 = a + sz := ⟨_, rfl⟩
      have e2 : (a : Int) + (sz : Int) = (a2 : Int) := by omega
      have e3 : IntKind.i64.wrap ((a2 : Int) - (sz : Int)) = (a : Int) := by rw [IntKind.wrap_i64]; omega
      have e4 : a2 - a = sz := by omega
      have m0 : 0 ≤ (a : Int) := by omega
      have m1 : (a : Int) ≤ (a2 : Int) := by omega
      have m2 : (a2 : Int) ≤ (c : Int) := by omega
      rw [← ha2]
      replace hxl := Lib.hid hxl
      replace hrd := Lib.hid hrd
      clear hn
      replace ha2 := Lib.hid ha2
      replace e2 := Lib.hid e2
      replace e3 := Lib.hid e3
      replace e4 := Lib.hid e4
      go_enter Tryd.func30, Tryd.ntmps30
      go_wp2
      refine wp_region_rel [] Ext (by kernel_rfl) (by kernel_rfl) (by kernel_rfl) Ext.refl Ext.trans (by intro p hp; cases hp) ?_
      refine relMove Ext.refl rfl rfl rfl rfl _ (.inl rfl) (by conv => lhs; whnf) (by simp only [List.set_cons_succ, List.set_cons_zero]; rfl) ?_
      refine relPure Ext.refl rfl rfl rfl rfl (fun w _ => by go_simp; first | done | rfl) (by simp only [List.set_cons_succ, List.set_cons_zero]; rfl) ?_
      refine relPure Ext.refl rfl rfl rfl rfl (fun w _ => by go_simp; first | done | rfl) (by simp only [List.set_cons_succ, List.set_cons_zero]; rfl) ?_
      refine relPure Ext.refl rfl rfl rfl rfl (c := .int .i64 0) (fun w hw => by have := (hA.below hw.drew).cell 2 _ rfl; go_simp; first | done | rfl) (by simp only [List.set_cons_succ, List.set_cons_zero]; rfl) ?_
      refine relPure Ext.refl rfl rfl rfl rfl (fun w _ => by go_simp; first | done | rfl) (by simp only [List.set_cons_succ, List.set_cons_zero]; rfl) ?_
      refine relMove Ext.refl rfl rfl rfl rfl _ (.inl rfl) (by conv => lhs; whnf) (by simp only [List.set_cons_succ, List.set_cons_zero]; rfl) ?_
      refine relMove Ext.refl rfl rfl rfl rfl _ (.inl rfl) (by conv => lhs; whnf) (by simp only [List.set_cons_succ, List.set_cons_zero]; rfl) ?_
      refine relPure Ext.refl rfl rfl rfl rfl (fun w _ => by go_simp; first | done | rfl) (by simp only [List.set_cons_succ, List.set_cons_zero]; rfl) ?_
      refine relPure Ext.refl rfl rfl rfl rfl (fun w _ => by go_simp; first | done | rfl) (by simp only [List.set_cons_succ, List.set_cons_zero]; rfl) ?_
      refine relPure Ext.refl rfl rfl rfl rfl (c := .slice A n c) (fun w hw => by have := (hA.below hw.drew).cell 0 _ rfl; go_simp; first | done | rfl) (by simp only [List.set_cons_succ, List.set_cons_zero]; rfl) ?_
      refine relPure Ext.refl rfl rfl rfl rfl (fun w _ => by go_simp; first | done | rfl) (by simp only [List.set_cons_succ, List.set_cons_zero]; rfl) ?_
      refine relMove Ext.refl rfl rfl rfl rfl _ (.inl rfl) (by conv => lhs; whnf) (by simp only [List.set_cons_succ, List.set_cons_zero]; rfl) ?_
      refine relPure Ext.refl rfl rfl rfl rfl (fun w _ => by go_simp; first | done | rfl) (by simp only [List.set_cons_succ, List.set_cons_zero]; rfl) ?_
      refine relPure Ext.refl rfl rfl rfl rfl (fun w _ => by go_simp; first | done | rfl) (by simp only [List.set_cons_succ, List.set_cons_zero]; rfl) ?_
      refine relPure Ext.refl rfl rfl rfl rfl (c := .int .i64 (a : Int)) (fun w hw => by have := (hA.below hw.drew).cell 1 _ rfl; go_simp; first | done | rfl) (by simp only [List.set_cons_succ, List.set_cons_zero]; rfl) ?_
      refine relPure Ext.refl rfl rfl rfl rfl (fun w _ => by go_simp; first | done | rfl) (by simp only [List.set_cons_succ, List.set_cons_zero]; rfl) ?_
      refine relMove Ext.refl rfl rfl rfl rfl _ (.inl rfl) (by conv => lhs; whnf) (by simp only [List.set_cons_succ, List.set_cons_zero]; rfl) ?_
      refine relPure Ext.refl rfl rfl rfl rfl (fun w _ => by go_simp; first | done | rfl) (by simp only [List.set_cons_succ, List.set_cons_zero]; rfl) ?_
      refine relPick Ext.refl rfl rfl rfl rfl _ _ _ rfl rfl (by conv => lhs; whnf) (by simp only [List.set_cons_succ, List.set_cons_zero]; rfl) ?_
      refine relEnd fun w2 hw2 => fill_end ?_
      have hA2 := hA.below hw2.drew
      have hc1 := hA2.cell 1 _ rfl
      have hc2 := hA2.cell 2 _ rfl
      have hf2 := frozen_of_row _ _ 1 _ _ hA2
      go_wp2
      rw [e2.out]
      have hA3 := hA2.set 1 (.int .i64 (a2 : Int))
      have hF := (Below.fr hw2.drew).trans (Fr.setCell w2 ⟨gs, 1, none⟩ (.int .i64 (a2 : Int)))
      clear hc1 hc2 hf2 hA2 hA
      generalize w2.setCell ⟨gs, 1, none⟩ (.int .i64 (a2 : Int)) = w3 at *
      have hA4 : Av w3 gs 72 [.slice A n c, .int .i64 (a2 : Int), .int .i64 0] := hA3
      clear hA3 t1 e1
      replace hF := Lib.hid hF
      refine wp_region_rel [] Ext (by kernel_rfl) (by kernel_rfl) (by kernel_rfl) Ext.refl Ext.trans (by intro p hp; cases hp) ?_
      refine relMove Ext.refl rfl rfl rfl rfl _ (.inl rfl) (by conv => lhs; whnf) (by simp only [List.set_cons_succ, List.set_cons_zero]; rfl) ?_
      refine relPure Ext.refl rfl rfl rfl rfl (fun w _ => by go_simp; first | done | rfl) (by simp only [List.set_cons_succ, List.set_cons_zero]; rfl) ?_
      refine relPure Ext.refl rfl rfl rfl rfl (fun w _ => by go_simp; first | done | rfl) (by simp only [List.set_cons_succ, List.set_cons_zero]; rfl) ?_
      refine relPure Ext.refl rfl rfl rfl rfl (c := .slice A n c) (fun w hw => by have := (hA4.below hw.drew).cell 0 _ rfl; go_simp; first | done | rfl) (by simp only [List.set_cons_succ, List.set_cons_zero]; rfl) ?_
      refine relMove Ext.refl rfl rfl rfl rfl _ (.inl rfl) (by conv => lhs; whnf) (by simp only [List.set_cons_succ, List.set_cons_zero]; rfl) ?_
      refine relPure Ext.refl rfl rfl rfl rfl (fun w _ => by go_simp; first | done | rfl) (by simp only [List.set_cons_succ, List.set_cons_zero]; rfl) ?_
      refine relPure Ext.refl rfl rfl rfl rfl (fun w _ => by go_simp; first | done | rfl) (by simp only [List.set_cons_succ, List.set_cons_zero]; rfl) ?_
      refine relPure Ext.refl rfl rfl rfl rfl (c := .int .i64 (a2 : Int)) (fun w hw => by have := (hA4.below hw.drew).cell 1 _ rfl; go_simp; first | done | rfl) (by simp only [List.set_cons_succ, List.set_cons_zero]; rfl) ?_
      refine relMove Ext.refl rfl rfl rfl rfl _ (.inl rfl) (by conv => lhs; whnf) (by simp only [List.set_cons_succ, List.set_cons_zero]; rfl) ?_
      refine relPure Ext.refl rfl rfl rfl rfl (c := .int .i64 (a : Int)) (fun w hw => by go_simp; rw [e3.out]) (by simp only [List.set_cons_succ, List.set_cons_zero]; rfl) ?_
      refine relMove Ext.refl rfl rfl rfl rfl _ (.inl rfl) (by conv => lhs; whnf) (by simp only [List.set_cons_succ, List.set_cons_zero]; rfl) ?_
      refine relPure Ext.refl rfl rfl rfl rfl (fun w _ => by go_simp; first | done | rfl) (by simp only [List.set_cons_succ, List.set_cons_zero]; rfl) ?_
      refine relPure Ext.refl rfl rfl rfl rfl (fun w _ => by go_simp; first | done | rfl) (by simp only [List.set_cons_succ, List.set_cons_zero]; rfl) ?_
      refine relPure Ext.refl rfl rfl rfl rfl (c := .int .i64 (a2 : Int)) (fun w hw => by have := (hA4.below hw.drew).cell 1 _ rfl; go_simp; first | done | rfl) (by simp only [List.set_cons_succ, List.set_cons_zero]; rfl) ?_
      refine relPure Ext.refl rfl rfl rfl rfl (c := .slice (subA A c a 1) sz (c - a)) (fun w hw => by go_simp; rw [e4.out]) (by simp only [List.set_cons_succ, List.set_cons_zero]; rfl) ?_
      refine relMove Ext.refl rfl rfl rfl rfl _ (.inr rfl) (by conv => lhs; whnf) (by simp only [List.set_cons_succ, List.set_cons_zero]; rfl) ?_
      refine relEnd fun w4 hw4 => fill_end ?_
      have hA5 := hA4.below hw4.drew
      go_wp2
      go_ret
      exact ⟨⟨_, rfl, subA A c a 1, c - a, by rw [hxl.out]; rfl, by rw [hxl.out]; omega, hrd.out⟩, hA5, hF.out.trans (Below.fr hw4.drew)⟩
  · rw [show sTake bs a e sz = ([], a, e) by rw [sTake, if_pos he]]
    have t1 : ((e : Int) == 0) = false := by simp; omega
    have t2 : ((e : Int) != 0) = true := by simp; omega
    clear hn
    go_enter Tryd.func30, Tryd.ntmps30
    go_wp2
    refine wp_region_rel [] Ext (by kernel_rfl) (by kernel_rfl) (by kernel_rfl) Ext.refl Ext.trans (by intro p hp; cases hp) ?_
    refine relMove Ext.refl rfl rfl rfl rfl _ (.inl rfl) (by conv => lhs; whnf) (by simp only [List.set_cons_succ, List.set_cons_zero]; rfl) ?_
    refine relPure Ext.refl rfl rfl rfl rfl (fun w _ => by go_simp; first | done | rfl) (by simp only [List.set_cons_succ, List.set_cons_zero]; rfl) ?_
    refine relPure Ext.refl rfl rfl rfl rfl (fun w _ => by go_simp; first | done | rfl) (by simp only [List.set_cons_succ, List.set_cons_zero]; rfl) ?_
    refine relPure Ext.refl rfl rfl rfl rfl (c := .int .i64 (e : Int)) (fun w hw => by have := (hA.below hw.drew).cell 2 _ rfl; go_simp; first | done | rfl) (by simp only [List.set_cons_succ, List.set_cons_zero]; rfl) ?_
    refine relPure Ext.refl rfl rfl rfl rfl (fun w _ => by go_simp; first | done | rfl) (by simp only [List.set_cons_succ, List.set_cons_zero]; rfl) ?_
    refine relMove Ext.refl rfl rfl rfl rfl _ (.inl rfl) (by conv => lhs; whnf) (by simp only [List.set_cons_succ, List.set_cons_zero]; rfl) ?_
    refine relSkip rfl rfl rfl rfl (by simp only [List.set_cons_succ, List.set_cons_zero]; rfl) ?_
    refine relSkip rfl rfl rfl rfl (by simp only [List.set_cons_succ, List.set_cons_zero]; rfl) ?_
    refine relSkip rfl rfl rfl rfl (by simp only [List.set_cons_succ, List.set_cons_zero]; rfl) ?_
    refine relSkip rfl rfl rfl rfl (by simp only [List.set_cons_succ, List.set_cons_zero]; rfl) ?_
    refine relSkip rfl rfl rfl rfl (by simp only [List.set_cons_succ, List.set_cons_zero]; rfl) ?_
    refine relSkip rfl rfl rfl rfl (by simp only [List.set_cons_succ, List.set_cons_zero]; rfl) ?_
    refine relSkip rfl rfl rfl rfl (by simp only [List.set_cons_succ, List.set_cons_zero]; rfl) ?_
    refine relSkip rfl rfl rfl rfl (by simp only [List.set_cons_succ, List.set_cons_zero]; rfl) ?_
    refine relSkip rfl rfl rfl rfl (by simp only [List.set_cons_succ, List.set_cons_zero]; rfl) ?_
    refine relSkip rfl rfl rfl rfl (by simp only [List.set_cons_succ, List.set_cons_zero]; rfl) ?_
    refine relSkip rfl rfl rfl rfl (by simp only [List.set_cons_succ, List.set_cons_zero]; rfl) ?_
    refine relSkip rfl rfl rfl rfl (by simp only [List.set_cons_succ, List.set_cons_zero]; rfl) ?_
    refine relPick Ext.refl rfl rfl rfl rfl _ _ _ rfl rfl (by conv => lhs; whnf) (by simp only [List.set_cons_succ, List.set_cons_zero]; rfl) ?_
    refine relEnd fun w2 hw2 => fill_end ?_
    have hA2 := hA.below hw2.drew
    have hc2 := hA2.cell 2 _ rfl
    go_wp2
    go_ret
    exact ⟨⟨_, rfl, none, 0, rfl, Nat.le_refl _, fun w0 _ => Rd.nil _ _⟩, hA2, Below.fr hw2.drew⟩

theorem le_take_step (x : List UInt8) (k : Nat) (hk : k < x.length) : Cm.le (x.take (k + 1)) = Cm.le (x.take k) + 2 ^ (8 * k) * x[k].toNat := by
  rw [List.take_add_one, List.getElem?_eq_getElem hk, Cm.le_append, List.length_take, Nat.min_eq_left (Nat.le_of_lt hk), pow_256]
  simp [Cm.le]
theorem le_take_bnd (x : List UInt8) (k : Nat) : Cm.le (x.take k) < 2 ^ (8 * k) := by
  have h := Cm.le_lt (x.take k)
  rw [← pow_256]
  refine Nat.lt_of_lt_of_le h (Nat.pow_le_pow_right (by omega) ?_)
  rw [List.length_take]; omega

set_option maxRecDepth 10000 in
set_option maxHeartbeats 1000000 in
theorem TNum (bs : List UInt8) (A : Option Addr) (n c : Nat) (hn : bs.length = n) (hnc : n ≤ c) (hm : n ≤ 1000000000000) (a e sz : Nat) (ha : a ≤ n) (hsz : sz ≤ 8) (gs g5 : Nat) (w0 w : World) (hr : Rd w0 A (bs.map bv)) (hB : Below w0.heap.size w0 w) (hgs : w0.heap.size ≤ gs)
    (h5 : Av w g5 70 [.pointer (some ⟨gs, 0, none⟩)]) (hA : Av w gs 72 (srcc A n c a e)) :
    Calls Tryd.prog 29 #[.int .i64 (sz : Int), .pointer (some ⟨g5, 0, none⟩)] w fun r w' => r = .returned (.int .u64 (Cm.le (sTake bs a e sz).1 : Int)) ∧ SrcTo gs (srcc A n c (sTake bs a e sz).2.1 (sTake bs a e sz).2.2) w w' := by
  have HT := Lib.hid (TTake bs A n c hn hnc hm a e sz ha (by omega) gs w hA)
  have hxl : (sTake bs a e sz).1.length ≤ 8 := by
    unfold sTake
    split
    · simp
    · split
      · simp
      · simp; omega
  generalize sTake bs a e sz = X at *
  obtain ⟨x, a', e'⟩ := X
  simp only at hxl HT ⊢
  have c5 := h5.cell 0 _ rfl
  clear hA hn
  go_enter Tryd.func29, Tryd.ntmps29
  go_wp2_with fail
  refine (HT.out).mono ?_
  rintro r w1 ⟨⟨v, rfl, A', c', rfl, hc', hrd⟩, hA1, hF⟩
  have b1 : Below w0.heap.size w0 w1 := hB.trans (hF.below (fun k hk => by omega) hB.size)
  have hrx := hrd w1 (hr.below b1)
  obtain ⟨m, hxm⟩ : ∃ m, x.length = m := ⟨_, rfl⟩
  rw [hxm] at hc' hxl ⊢
  replace hxm := Lib.hid hxm
  clear hrd HT c5
  go_wp2
  go_loop [4, 5, 6, 11] (fun t _ _ i => ∃ k : Nat, k ≤ m ∧ i = .int .i64 (k : Int) ∧ t = .int .u64 (Cm.le (x.take k) : Int)) (fun _ _ _ i => m - (intOf i).toNat)
  case atStart => exact ⟨0, by omega, rfl, rfl⟩
  case round =>
    obtain ⟨k, hk, rfl, rfl⟩ := hrel
    by_cases hlt : k < m
    · have t1 : decide ((k : Int) < (m : Int)) = true := by simp; omega
      have hkx : k < x.length := by rw [hxm.out]; exact hlt
      obtain ⟨b, off, rfl⟩ := hrx.someA (by intro h; have := congrArg List.length h; rw [List.length_map, hxm.out] at this; simp at this; omega)
      have hck : w1.cell? ⟨b, off + k, none⟩ = some (bv x[k]) := by
        rcases hrx with h | ⟨b', o', hA, hc⟩
        · rw [List.map_eq_nil_iff] at h; rw [h] at hkx; simp at hkx
        · cases hA
          exact hc k _ (by rw [List.getElem?_map, List.getElem?_eq_getElem hkx]; rfl)
      have hstep := Lib.hid (le_take_step x k hkx)
      have m0 : 0 ≤ (k : Int) := by omega
      have m1 : (k : Int) < (m : Int) := by omega
      go_wp2
      go_round
      case rel =>
        refine ⟨k + 1, by omega, by go_num, ?_⟩
        rw [or_shl_u64 _ _ _ (le_take_bnd x k) (Cm.u8_lt _) (by omega), ← hstep.out]
      case measure => simp [intOf]; omega
    · obtain rfl : k = m := by omega
      have t1 : decide ((k : Int) < (k : Int)) = false := by simp
      go_wp2
      go_ret
      refine ⟨?_, hA1, hF⟩
      rw [List.take_of_length_le (by rw [hxm.out]; omega)]
      rfl

set_option maxRecDepth 10000 in
set_option maxHeartbeats 1000000 in
theorem TCount (bs : List UInt8) (A : Option Addr) (n c : Nat) (hn : bs.length = n) (hnc : n ≤ c) (hm : n ≤ 1000000000000) (a e most : Nat) (ha : a ≤ n) (gs : Nat) (w0 w : World) (hr : Rd w0 A (bs.map bv)) (hB : Below w0.heap.size w0 w)
    (hA : Av w gs 72 (srcc A n c a e)) :
    Calls Tryd.prog 31 #[.pointer (some ⟨gs, 0, none⟩), .int .u64 (most : Int)] w fun r w' => r = .returned (.int .i64 ((sCount bs a e most).1 : Int)) ∧ SrcTo gs (srcc A n c (sCount bs a e most).2.1 (sCount bs a e most).2.2) w w' := by
  unfold srcc at hA
  have hc2 := hA.cell 2 _ rfl
  by_cases he : e = 0
  · subst he
    obtain ⟨N, K, E, hX⟩ : ∃ N K E, Cm.bounded (bs.drop a) most = (N, K, E) := ⟨_, _, _, rfl⟩
    rw [show sCount bs a 0 most = (N, a + K, E) by rw [sCount, if_neg (by simp), hX]]
    have hK : K ≤ 9 := by
      have := bounded_snd (bs.drop a) most
      rw [hX] at this; exact this
    have HB := Lib.hid (fun w (h : Below w0.heap.size w0 w) => compact_Bounded (bs.drop a) (most : Int) (by omega) N K E (by rw [Int.toNat_natCast]; exact hX) (subA A c a 1) (n - a) (c - a) w (by
      have := (hr.below h).sub c a 1 (by rw [List.length_map, hn]; omega)
      rw [Nat.mul_one] at this
      rw [List.map_drop]
      exact this) (by rw [List.length_drop, hn]) (by omega))
    have m0 : 0 ≤ (a : Int) := by omega
    have m1 : (a : Int) ≤ (n : Int) := by omega
    have hbel := fun w' (h : Ext w.drew w') => hB.trans (h.drew.mono hB.size)
    replace hbel := Lib.hid hbel
    clear hX hn
    go_enter Tryd.func31, Tryd.ntmps31
    go_wp2
    refine wp_region_rel [] Ext (by kernel_rfl) (by kernel_rfl) (by kernel_rfl) Ext.refl Ext.trans (by intro p hp; cases hp) ?_
    refine relMove Ext.refl rfl rfl rfl rfl _ (.inl rfl) (by conv => lhs; whnf) (by simp only [List.set_cons_succ, List.set_cons_zero]; rfl) ?_
    refine relPure Ext.refl rfl rfl rfl rfl (fun w _ => by go_simp; first | done | rfl) (by simp only [List.set_cons_succ, List.set_cons_zero]; rfl) ?_
    refine relPure Ext.refl rfl rfl rfl rfl (fun w _ => by go_simp; first | done | rfl) (by simp only [List.set_cons_succ, List.set_cons_zero]; rfl) ?_
    refine relPure Ext.refl rfl rfl rfl rfl (c := .slice A n c) (fun w hw => by have := (hA.below hw.drew).cell 0 _ rfl; go_simp; first | done | rfl) (by simp only [List.set_cons_succ, List.set_cons_zero]; rfl) ?_
    refine relMove Ext.refl rfl rfl rfl rfl _ (.inl rfl) (by conv => lhs; whnf) (by simp only [List.set_cons_succ, List.set_cons_zero]; rfl) ?_
    refine relPure Ext.refl rfl rfl rfl rfl (fun w _ => by go_simp; first | done | rfl) (by simp only [List.set_cons_succ, List.set_cons_zero]; rfl) ?_
    refine relPure Ext.refl rfl rfl rfl rfl (fun w _ => by go_simp; first | done | rfl) (by simp only [List.set_cons_succ, List.set_cons_zero]; rfl) ?_
    refine relPure Ext.refl rfl rfl rfl rfl (c := .int .i64 (a : Int)) (fun w hw => by have := (hA.below hw.drew).cell 1 _ rfl; go_simp; first | done | rfl) (by simp only [List.set_cons_succ, List.set_cons_zero]; rfl) ?_
    refine relPure Ext.refl rfl rfl rfl rfl (fun w _ => by go_simp; first | done | rfl) (by simp only [List.set_cons_succ, List.set_cons_zero]; rfl) ?_
    refine relMove Ext.refl rfl rfl rfl rfl _ (.inl rfl) (by conv => lhs; whnf) (by simp only [List.set_cons_succ, List.set_cons_zero]; rfl) ?_
    refine relCall1 rfl rfl rfl rfl (c := .tuple #[.int .i64 (N : Int), .int .i64 (K : Int), .int .i64 (E : Int)]) 45 #[.slice (subA A c a 1) (n - a) (c - a), .int .u64 (most : Int)] (fun w => by go_simp) (fun w hw => (HB.out w (hbel.out w hw)).mono ?_) (by simp only [List.set_cons_succ, List.set_cons_zero]; rfl) ?_
    · rintro e w' ⟨rfl, rfl⟩
      exact ⟨rfl, Ext.refl _⟩
    refine relMove Ext.refl rfl rfl rfl rfl _ (.inl rfl) (by conv => lhs; whnf) (by simp only [List.set_cons_succ, List.set_cons_zero]; rfl) ?_
    refine relPure Ext.refl rfl rfl rfl rfl (fun w _ => by go_simp; first | done | rfl) (by simp only [List.set_cons_succ, List.set_cons_zero]; rfl) ?_
    refine relPure Ext.refl rfl rfl rfl rfl (fun w _ => by go_simp; first | done | rfl) (by simp only [List.set_cons_succ, List.set_cons_zero]; rfl) ?_
    refine relPure Ext.refl rfl rfl rfl rfl (fun w _ => by go_simp; first | done | rfl) (by simp only [List.set_cons_succ, List.set_cons_zero]; rfl) ?_
    refine relMove Ext.refl rfl rfl rfl rfl _ (.inr rfl) (by conv => lhs; whnf) (by simp only [List.set_cons_succ, List.set_cons_zero]; rfl) ?_
    refine relMove Ext.refl rfl rfl rfl rfl _ (.inr rfl) (by conv => lhs; whnf) (by simp only [List.set_cons_succ, List.set_cons_zero]; rfl) ?_
    refine relMove Ext.refl rfl rfl rfl rfl _ (.inr rfl) (by conv => lhs; whnf) (by simp only [List.set_cons_succ, List.set_cons_zero]; rfl) ?_
    refine relEnd fun w2 hw2 => fill_end ?_
    have hA2 := hA.below hw2.drew
    have hF := Below.fr (S := fun k => k = gs) hw2.drew
    have hc1 := hA2.cell 1 _ rfl
    have hc2' := hA2.cell 2 _ rfl
    have hf1 := frozen_of_row _ _ 1 _ _ hA2
    have hf2 := frozen_of_row _ _ 2 _ _ hA2
    clear hc2 hA
    go_wp2
    go_ret
    refine ⟨rfl, ?_, (hF.trans (Fr.setCell w2 ⟨gs, 1, none⟩ (.int .i64 ((a : Int) + (K : Int))))).trans (Fr.setCell _ ⟨gs, 2, none⟩ _)⟩
    have := (hA2.set 1 (.int .i64 ((a : Int) + (K : Int)))).set 2 (.int .i64 (E : Int))
    exact this
  · rw [show sCount bs a e most = (0, a, e) by rw [sCount, if_pos he]]
    have t2 : ((e : Int) != 0) = true := by simp; omega
    clear hn
    go_enter Tryd.func31, Tryd.ntmps31
    go_wp2
    go_ret
    exact ⟨rfl, hA, Fr.refl _ _⟩

/-- a slice of just these bytes, in memory that lies at or beyond H -/
def SlF (H : Nat) (bs : List UInt8) : VP := fun v w => ∃ (A : Option Addr) (c : Nat), v = .slice A bs.length c ∧ bs.length ≤ c ∧ Rd w A (bs.map bv) ∧ ∀ a, A = some a → H ≤ a.block
theorem SlF.mono {H : Nat} {bs : List UInt8} {v : Value} {w w' : World} (h : Ext w w') : SlF H bs v w → SlF H bs v w' := by
  rintro ⟨A, c, rfl, hc, hr, ha⟩
  exact ⟨A, c, rfl, hc, hr.below h, ha⟩
theorem SlF.own {bs : List UInt8} {v : Value} {w : World} {base : Nat} (h : OwnB w base v bs) (H : Nat) (hH : H ≤ base) : SlF H bs v w := by
  obtain ⟨A, c, rfl, hc, _⟩ := h.form
  refine ⟨A, c, rfl, hc, h.rd, fun a ha => ?_⟩
  subst ha
  have := (h.lt a.block rfl).1
  omega

set_option maxRecDepth 10000 in
set_option maxHeartbeats 1000000 in
theorem TScript (bs : List UInt8) (A : Option Addr) (n c : Nat) (hn : bs.length = n) (hnc : n ≤ c) (hm : n ≤ 1000000000000) (a e : Nat) (ha : a ≤ n) (gs : Nat) (w0 w : World) (hr : Rd w0 A (bs.map bv)) (hB : Below w0.heap.size w0 w)
    (hA : Av w gs 72 (srcc A n c a e)) :
    Calls Tryd.prog 32 #[.pointer (some ⟨gs, 0, none⟩)] w fun r w' => (∃ v, r = .returned v ∧ SlF w.heap.size (sScript bs a e).1 v w') ∧ SrcTo gs (srcc A n c (sScript bs a e).2.1 (sScript bs a e).2.2) w w' := by
  unfold srcc at hA
  have hc2 := hA.cell 2 _ rfl
  by_cases he : e = 0
  · subst he
    obtain ⟨O, K, E, hX⟩ : ∃ O K E, Cm.bytes (bs.drop a) 10000 = (O, K, E) := ⟨_, _, _, rfl⟩
    rw [show sScript bs a 0 = (O, a + K, E) by rw [sScript, if_neg (by simp), hX]]
    have hK : K ≤ 20000 := by
      have := bytes_snd (bs.drop a)
      rw [hX] at this; exact this
    have HB := Lib.hid (fun w (h : Below w0.heap.size w0 w) => compact_Bytes (bs.drop a) 10000 (by omega) (by omega) O K E hX (subA A c a 1) (n - a) (c - a) w (by
      have := (hr.below h).sub c a 1 (by rw [List.length_map, hn]; omega)
      rw [Nat.mul_one] at this
      rw [List.map_drop]
      exact this) (by rw [List.length_drop, hn]) (by omega) (by omega))
    have m0 : 0 ≤ (a : Int) := by omega
    have m1 : (a : Int) ≤ (n : Int) := by omega
    have hbel := fun w' (h : Ext w.drew w') => hB.trans (h.drew.mono hB.size)
    replace hbel := Lib.hid hbel
    obtain ⟨phi, hphi⟩ : ∃ phi : VP, phi = fun u w' => ∃ v, u = .tuple #[v, .int .i64 (K : Int), .int .i64 (E : Int)] ∧ SlF w.heap.size O v w' := ⟨_, rfl⟩
    have hmono : ∀ v a b, Ext a b → phi v a → phi v b := by
      intro v a b hE h
      rw [hphi] at h ⊢
      obtain ⟨u, h1, h2⟩ := h
      exact ⟨u, h1, h2.mono hE⟩
    clear hX hn
    replace hphi := Lib.hid hphi
    go_enter Tryd.func32, Tryd.ntmps32
    go_wp2
    refine wp_region_rel [(9, phi), (10, phi), (11, SlF w.heap.size O), (14, SlF w.heap.size O)] Ext (by kernel_rfl) (by kernel_rfl) (by kernel_rfl) Ext.refl Ext.trans (by
      intro p hp v w w' hR
      simp only [List.mem_cons, List.not_mem_nil, or_false] at hp
      rcases hp with rfl | rfl | rfl | rfl
      · exact hmono _ _ _ hR
      · exact hmono _ _ _ hR
      · exact SlF.mono hR
      · exact SlF.mono hR) ?_
    refine relMove Ext.refl rfl rfl rfl rfl _ (.inl rfl) (by conv => lhs; whnf) (by simp only [List.set_cons_succ, List.set_cons_zero]; rfl) ?_
    refine relPure Ext.refl rfl rfl rfl rfl (fun w _ => by go_simp; first | done | rfl) (by simp only [List.set_cons_succ, List.set_cons_zero]; rfl) ?_
    refine relPure Ext.refl rfl rfl rfl rfl (fun w _ => by go_simp; first | done | rfl) (by simp only [List.set_cons_succ, List.set_cons_zero]; rfl) ?_
    refine relPure Ext.refl rfl rfl rfl rfl (c := .slice A n c) (fun w hw => by have := (hA.below hw.drew).cell 0 _ rfl; go_simp; first | done | rfl) (by simp only [List.set_cons_succ, List.set_cons_zero]; rfl) ?_
    refine relMove Ext.refl rfl rfl rfl rfl _ (.inl rfl) (by conv => lhs; whnf) (by simp only [List.set_cons_succ, List.set_cons_zero]; rfl) ?_
    refine relPure Ext.refl rfl rfl rfl rfl (fun w _ => by go_simp; first | done | rfl) (by simp only [List.set_cons_succ, List.set_cons_zero]; rfl) ?_
    refine relPure Ext.refl rfl rfl rfl rfl (fun w _ => by go_simp; first | done | rfl) (by simp only [List.set_cons_succ, List.set_cons_zero]; rfl) ?_
    refine relPure Ext.refl rfl rfl rfl rfl (c := .int .i64 (a : Int)) (fun w hw => by have := (hA.below hw.drew).cell 1 _ rfl; go_simp; first | done | rfl) (by simp only [List.set_cons_succ, List.set_cons_zero]; rfl) ?_
    refine relPure Ext.refl rfl rfl rfl rfl (fun w _ => by go_simp; first | done | rfl) (by simp only [List.set_cons_succ, List.set_cons_zero]; rfl) ?_
    refine relCall _ rfl rfl rfl 46 #[.slice (subA A c a 1) (n - a) (c - a), .int .i64 10000] (fun w => by go_simp) (fun w hw => (HB.out w (hbel.out w hw)).mono ?_) ?_
    · rintro r w' ⟨v, rfl, ho, hb⟩
      exact ⟨_, rfl, hb, by rw [hphi.out]; exact ⟨v, rfl, SlF.own ho _ (by have := hw.size; simpa using this)⟩⟩
    refine relWord _ rfl (fun w hw => fill_take rfl rfl fun u hu => fill_none rfl (relOp_yes rfl ?_)) ?_
    · go_simp
      exact ⟨Ext.refl _, hu⟩
    refine relWord _ rfl (fun w hw => fill_skip rfl (fill_take rfl rfl fun u hu => fill_none rfl (relOp_yes rfl ?_))) ?_
    · rw [hphi.out] at hu
      obtain ⟨v, rfl, h⟩ := hu
      go_simp
      exact ⟨Ext.refl _, h⟩
    refine relOn rfl rfl (c := .int .i64 (K : Int)) (fun w hw => fill_skip rfl (fill_take rfl rfl fun u hu => fill_none rfl (relOp_yes rfl ?_))) (by simp only [List.set_cons_succ, List.set_cons_zero]; rfl) ?_
    · rw [hphi.out] at hu
      obtain ⟨v, rfl, h⟩ := hu
      go_simp
      exact ⟨Ext.refl _, rfl⟩
    refine relOn rfl rfl (c := .int .i64 (E : Int)) (fun w hw => fill_skip rfl (fill_take rfl rfl fun u hu => fill_none rfl (relOp_yes rfl ?_))) (by simp only [List.set_cons_succ, List.set_cons_zero]; rfl) ?_
    · rw [hphi.out] at hu
      obtain ⟨v, rfl, h⟩ := hu
      go_simp
      exact ⟨Ext.refl _, rfl⟩
    refine relWord _ rfl (fun w hw => fill_skip rfl (fill_skip rfl (fill_take rfl rfl fun u hu => fill_none rfl (relOp_yes rfl ?_)))) ?_
    · go_simp
      exact ⟨Ext.refl _, hu⟩
    refine relMove Ext.refl rfl rfl rfl rfl _ (.inr rfl) (by conv => lhs; whnf) (by simp only [List.set_cons_succ, List.set_cons_zero]; rfl) ?_
    refine relMove Ext.refl rfl rfl rfl rfl _ (.inr rfl) (by conv => lhs; whnf) (by simp only [List.set_cons_succ, List.set_cons_zero]; rfl) ?_
    refine relEnd fun w2 hw2 => fill_take rfl rfl fun u1 h1 => fill_take rfl rfl fun u2 h2 => fill_take rfl rfl fun u3 h3 => fill_take rfl rfl fun v h4 => fill_end ?_
    simp only [List.set_cons_succ, List.set_cons_zero]
    have hA2 := hA.below hw2.drew
    have hF := Below.fr (S := fun k => k = gs) hw2.drew
    have hc1 := hA2.cell 1 _ rfl
    have hc2' := hA2.cell 2 _ rfl
    have hf1 := frozen_of_row _ _ 1 _ _ hA2
    have hf2 := frozen_of_row _ _ 2 _ _ hA2
    have hgl := hA.lt
    clear hc2 hA h1 h2 h3
    obtain ⟨Av', cv', rfl, hcv, hrv, hav⟩ := h4
    go_wp2
    go_ret
    have hG := (Fr.setCell w2 ⟨gs, 1, none⟩ (.int .i64 ((a : Int) + (K : Int)))).trans (Fr.setCell _ ⟨gs, 2, none⟩ (.int .i64 (E : Int)))
    refine ⟨⟨_, rfl, Av', cv', rfl, hcv, hG.rd hrv fun a ha => ?_, hav⟩, ?_, hF.trans hG⟩
    · have := hav a ha
      simp only; omega
    · have := (hA2.set 1 (.int .i64 ((a : Int) + (K : Int)))).set 2 (.int .i64 (E : Int))
      exact this
  · rw [show sScript bs a e = ([], a, e) by rw [sScript, if_pos he]]
    have t2 : ((e : Int) != 0) = true := by simp; omega
    clear hn
    go_enter Tryd.func32, Tryd.ntmps32
    go_wp2
    go_ret
    exact ⟨⟨_, rfl, none, 0, rfl, Nat.le_refl _, Rd.nil _ _, fun a ha => by cases ha⟩, hA, Fr.refl _ _⟩
end Go.Proofs.YtopgljkfoogihaaDoor
