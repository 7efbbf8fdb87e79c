import Derived.Test.YtobjgebojhjhnaaDoorLvs
namespace Go.Proofs.YtobjgebojhjhnaaDoor
open Go.RowKit
theorem neqH (x y : List UInt8) (hx : x.length = 32) (hy : y.length = 32) (w : World) : (binOp .neq 30 (.agg (hcs x)) (.agg (hcs y))).run Tryd.prog w = .ok (.bool (!(x == y))) w := by
 have h := run_equalIn_bytes w 9998 30 5 32 Tryd.underlying30 Tryd.underlying5 sizeOf_u8 x y hx hy
 rw [run_neq_struct]
 rw [show hcs x = (x.map bv).toArray from rfl, show hcs y = (y.map bv).toArray from rfl]
 exact (congrArg (fun r : Result Bool => r.andThen fun b w' => .ok (Value.bool (!b)) w') h)
theorem take_eq_step {α : Type} (a b : List α) (d : α) (k : Nat) (ha : k < a.length) (hb : k < b.length) (h : a.take k = b.take k) (hd : a.getD k d = b.getD k d) : a.take (k + 1) = b.take (k + 1) := by
 rw [List.take_add_one, List.take_add_one, h]
 simp only [List.getD_eq_getElem?_getD, List.getElem?_eq_getElem ha, List.getElem?_eq_getElem hb, Option.getD_some] at hd ⊢
 rw [hd]
set_option maxRecDepth 10000 in
set_option maxHeartbeats 1000000 in
theorem SameH (a b : List (List UInt8)) (ha : All32 a) (hb : All32 b) (A B : Option Addr) (n m ca cb : Nat) (hna : a.length = n) (hnb : b.length = m) (hn : n ≤ 100000) (hm : m ≤ 100000) (w : World) (ra : Rd w A (hcl a)) (rb : Rd w B (hcl b)) :
  Calls Tryd.prog 50 #[.slice A n ca, .slice B m cb] w fun e w' => e = .returned (.bool (a == b)) ∧ Below w.heap.size w w' := by
 by_cases hnm : n = m
 ·subst hnm
  replace hna := Lib.hid hna
  replace hnb := Lib.hid hnb
  go_enter Tryd.func50, Tryd.ntmps50
  go_wp2
  go_loopw [5] (fun i wr => ∃ k : Nat, k ≤ n ∧ i = .int .i64 (k : Int) ∧ Hid (a.take k = b.take k) ∧ Below w.heap.size w wr) (fun i _ => n - (intOf i).toNat)
  case atStart => exact ⟨0, by omega, rfl, Lib.hid (by simp), Below.refl _ _⟩
  case round =>
   obtain ⟨k, hk, rfl, htk, hbw⟩ := hrel
   by_cases hlt : k < n
   ·have t1 : decide ((k : Int) < (n : Int)) = true := by simp; omega
    obtain ⟨ba, oa, rfl⟩ := ra.someA (hcl_ne ha (by rw [hna.out]; omega))
    obtain ⟨bb, ob, rfl⟩ := rb.someA (hcl_ne hb (by rw [hnb.out]; omega))
    obtain ⟨x, hx⟩ : ∃ x, x = a.getD k [] := ⟨_, rfl⟩
    obtain ⟨y, hy⟩ : ∃ y, y = b.getD k [] := ⟨_, rfl⟩
    have hx32 : x.length = 32 := by rw [hx]; exact ha.get _ (by rw [hna.out]; omega)
    have hy32 : y.length = 32 := by rw [hy]; exact hb.get _ (by rw [hnb.out]; omega)
    have hrx := Lib.hid (fun w' (hE : Below w.heap.size w w') => hx ▸ (ra.below hE).hash ha k (by rw [hna.out]; omega))
    have hry := Lib.hid (fun w' (hE : Below w.heap.size w w') => hy ▸ (rb.below hE).hash hb k (by rw [hnb.out]; omega))
    have heq := neqH x y hx32 hy32
    obtain ⟨q, hq⟩ : ∃ q, q = (x == y) := ⟨_, rfl⟩
    rw [← hq] at heq
    have n0 : 0 ≤ (k : Int) := by omega
    have n1 : (k : Int) < (n : Int) := by omega
    replace hx := Lib.hid hx
    replace hy := Lib.hid hy
    replace hq := Lib.hid hq
    go_wp2_with fail
    have H1 : ∀ w', Ext wr.drew w' → Below w.heap.size w w' := fun w' hE => hbw.trans (hE.drew.mono hbw.size)
    refine wp_region_rel [] Ext (by kernel_rfl) (by kernel_rfl) (by kernel_rfl) Ext.refl Ext.trans (by intro p hp; cases hp) ?_
    refine ZM ?_
    refine ZM ?_
    refine ZP (fun w _ => by go_simp; first | done | rfl) ?_
    refine ZP (c := .agg (hcs x)) (fun w hw => exec_load_mid _ _ rfl ba (oa + k * 32) rfl (x.map bv) _ (hrx.out w (H1 w hw)) Tryd.underlying30 rfl (by rw [List.length_map, hx32]; kernel_rfl)) ?_
    refine ZM ?_
    refine ZM ?_
    refine ZP (fun w _ => by go_simp; first | done | rfl) ?_
    refine ZP (c := .agg (hcs y)) (fun w hw => exec_load_mid _ _ rfl bb (ob + k * 32) rfl (y.map bv) _ (hry.out w (H1 w hw)) Tryd.underlying30 rfl (by rw [List.length_map, hy32]; kernel_rfl)) ?_
    refine ZP (fun w _ => by go_simp; first | done | rfl) ?_
    refine relEnd fun w2 hw2 => fill_end ?_
    have hb2 := H1 w2 hw2
    cases q
    ·go_wp2
     go_ret
     refine ⟨?_, hb2⟩
     have hne : x ≠ y := by have := hq.out; intro e; rw [e] at this; simp at this
     have : (a == b) = false := by
      rw [beq_eq_false_iff_ne]
      intro e
      exact hne (by rw [hx.out, hy.out, e])
     rw [this]
     rfl
    ·go_wp2
     refine ⟨⟨k + 1, by omega, by go_num, Lib.hid ?_, hb2⟩, ?_⟩
     ·exact take_eq_step a b [] k (by rw [hna.out]; omega) (by rw [hnb.out]; omega) htk.out (by rw [← hx.out, ← hy.out]; exact eq_of_beq hq.out.symm)
     ·simp [intOf]; omega
   ·obtain rfl : k = n := by omega
    have t1 : decide ((k : Int) < (k : Int)) = false := by simp
    go_wp2
    go_ret
    refine ⟨?_, hbw⟩
    have h := htk.out
    rw [List.take_of_length_le (by rw [hna.out]; omega), List.take_of_length_le (by rw [hnb.out]; omega)] at h
    rw [h, beq_self_eq_true]
    rfl
 ·have t1 : ((n : Int) != (m : Int)) = true := by simp; omega
  have hf : (a == b) = false := by
   rw [beq_eq_false_iff_ne]
   intro e
   exact hnm (by rw [← hna, ← hnb, e])
  rw [hf]
  replace hna := Lib.hid hna
  replace hnb := Lib.hid hnb
  replace hf := Lib.hid hf
  go_enter Tryd.func50, Tryd.ntmps50
  go_wp2
  go_ret
  exact ⟨rfl, Below.refl _ _⟩
end Go.Proofs.YtobjgebojhjhnaaDoor
