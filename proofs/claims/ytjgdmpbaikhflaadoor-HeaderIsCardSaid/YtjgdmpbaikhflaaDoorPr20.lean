/- Ye; Yb; Bp: put together for the claim. -/
import Derived.Test.YtjgdmpbaikhflaaDoorHdL
import Derived.Test.YtjgdmpbaikhflaaDoorPr19
import Derived.Test.YtjgdmpbaikhflaaDoorPr3
import Derived.Test.YtjgdmpbaikhflaaDoorPr1
import Derived.Test.YtjgdmpbaikhflaaDoorPr9
import Derived.Test.YtjgdmpbaikhflaaDoorRul
import Derived.Laws.Tables
/- florinref07.Linked. -/
namespace Go.Proofs.YtjgdmpbaikhflaaDoor
open Go.RowKit
set_option maxRecDepth 10000 in
set_option maxHeartbeats 4000000 in
theorem RLinked7 (l : List Hd) (A : Option Addr) (n c : Nat) (hn : l.length = n) (hn2 : n ≤ 1000000) (w : World) (hr : RdHds w A l) :
    Calls Tryd.prog 26 #[.slice A n c] w fun e w' => e = .returned (.int .i64 (mLinked l : Int)) ∧ Below w.heap.size w w' := by
  have HI := fun (x : Hd) (hx : x.ok) (w' : World) => RId7 x hx w'
  obtain ⟨R, hR⟩ : ∃ R, R = mLinked l := ⟨_, rfl⟩
  rw [← hR]
  replace hR := Lib.hid hR
  replace HI := Lib.hid HI
  replace hn := Lib.hid hn
  go_enter Tryd.func26, Tryd.ntmps26
  go_wp2
  go_loopw [3] (fun i wr => ∃ j : Nat, 1 ≤ j ∧ (j ≤ n ∨ n = 0 ∧ j = 1) ∧ i = .int .i64 (j : Int) ∧ Below w.heap.size w wr ∧ Hid (∀ q, q < j → linkB l q = false)) (fun i _ => n - (intOf i).toNat)
  case atStart => exact ⟨1, by omega, by omega, rfl, Below.refl _ _, Lib.hid (fun q hq => by have e : q = 0 := (by omega); subst e; simp [linkB])⟩
  case round =>
    obtain ⟨j, hj1, hj, rfl, bw, hf⟩ := hrel
    replace hj := Lib.hid hj
    by_cases hlt : j < n
    · have t2 : decide ((j : Int) < (n : Int)) = true := by simp; omega
      obtain ⟨x, hx⟩ : ∃ x, l[j]? = some x := ⟨_, List.getElem?_eq_getElem (by rw [hn.out]; exact hlt)⟩
      obtain ⟨y, hy⟩ : ∃ y, l[j - 1]? = some y := ⟨_, List.getElem?_eq_getElem (by rw [hn.out]; omega)⟩
      obtain ⟨b, off, rfl⟩ := hr.adr (by rw [hn.out]; omega)
      obtain ⟨_, xok⟩ := hr.nth j x hx
      obtain ⟨_, yok⟩ := hr.nth (j - 1) y hy
      have G1 : ∀ w', Below w.heap.size w w' → w'.rangeAt b (off + j * 68 + 1) (x.prev.map bv) := fun w' h => range_prev ((hr.below h).nth j x hx).1
      have G2 : ∀ w', Below w.heap.size w w' → w'.rangeAt b (off + (j - 1) * 68) (hdc y) := fun w' h => ((hr.below h).nth (j - 1) y hy).1
      have y68 := hdc_length yok
      have xp32 : (x.prev.map bv).length = 32 := by rw [List.length_map, xok.2.1]
      have HI2 := HI.out y yok
      have hlb : linkB l j = !(x.prev == hdId y) := by
        unfold linkB
        rw [decide_eq_true (by omega), Bool.true_and, List.getD_eq_getElem?_getD, List.getD_eq_getElem?_getD, hx, hy]
        rfl
      have N1 := neqPg x.prev (hdId y) xok.2.1 (hdId_length y)
      rw [← hlb] at N1
      have m0 : 0 ≤ (j : Int) := by omega
      have m1 : (j : Int) < (n : Int) := by omega
      obtain ⟨i, hi⟩ : ∃ i, i = j - 1 := ⟨_, rfl⟩
      rw [← hi] at hy G2
      have e1 : IntKind.i64.wrap ((j : Int) - 1) = (i : Int) := by rw [IntKind.wrap_i64]; omega
      have m2 : 0 ≤ (i : Int) := by omega
      have m3 : (i : Int) < (n : Int) := by omega
      have m4 : (i : Int) = (j : Int) - 1 := by omega
      replace hi := Lib.hid hi
      replace hx := Lib.hid hx
      replace hy := Lib.hid hy
      replace G1 := Lib.hid G1
      replace G2 := Lib.hid G2
      replace HI2 := Lib.hid HI2
      replace N1 := Lib.hid N1
      replace hlb := Lib.hid hlb
      replace m4 := Lib.hid m4
      obtain ⟨q, hq⟩ : ∃ q, q = linkB l j := ⟨_, rfl⟩
      rw [← hq] at N1
      go_wp2_with fail
      refine wp_region_rel [] Ext (by kernel_rfl) (by kernel_rfl) (by kernel_rfl) Ext.refl Ext.trans (by intro p hp; cases hp) ?_
      refine relMove Ext.refl rfl rfl rfl rfl _ (.inl rfl) (by conv => lhs; whnf) (by simp only [List.set_cons_succ, List.set_cons_zero]; rfl) ?_
      refine relMove Ext.refl rfl rfl rfl rfl _ (.inl rfl) (by conv => lhs; whnf) (by simp only [List.set_cons_succ, List.set_cons_zero]; rfl) ?_
      refine relPure Ext.refl rfl rfl rfl rfl (c := .pointer (some ⟨b, off + j * 68, none⟩)) (fun w _ => by go_simp; first | done | rfl) (by simp only [List.set_cons_succ, List.set_cons_zero]; rfl) ?_
      refine relPure Ext.refl rfl rfl rfl rfl (c := .pointer (some ⟨b, off + j * 68 + 1, none⟩)) (fun w _ => by go_simp; first | done | rfl) (by simp only [List.set_cons_succ, List.set_cons_zero]; rfl) ?_
      refine relPure Ext.refl rfl rfl rfl rfl (c := .agg (hcs x.prev)) (fun w hw => exec_load_mid _ _ rfl b (off + j * 68 + 1) rfl (x.prev.map bv) _ (G1.out _ (bw.trans (hw.drew.mono bw.size))) Tryd.underlying24 rfl (by rw [xp32]; kernel_rfl)) (by simp only [List.set_cons_succ, List.set_cons_zero]; rfl) ?_
      refine relMove Ext.refl rfl rfl rfl rfl _ (.inl rfl) (by conv => lhs; whnf) (by simp only [List.set_cons_succ, List.set_cons_zero]; rfl) ?_
      refine relMove Ext.refl rfl rfl rfl rfl _ (.inl rfl) (by conv => lhs; whnf) (by simp only [List.set_cons_succ, List.set_cons_zero]; rfl) ?_
      refine relPure Ext.refl rfl rfl rfl rfl (c := .int .i64 (i : Int)) (fun w _ => by go_simp; first | done | rfl) (by simp only [List.set_cons_succ, List.set_cons_zero]; rfl) ?_
      refine relPure Ext.refl rfl rfl rfl rfl (c := .pointer (some ⟨b, off + i * 68, none⟩)) (fun w _ => by go_simp; first | done | rfl) (by simp only [List.set_cons_succ, List.set_cons_zero]; rfl) ?_
      refine relPure Ext.refl rfl rfl rfl rfl (c := .agg (hdc y).toArray) (fun w hw => exec_load_mid _ _ rfl b (off + i * 68) rfl (hdc y) _ (G2.out _ (bw.trans (hw.drew.mono bw.size))) Tryd.underlying26 rfl (by rw [y68]; kernel_rfl)) (by simp only [List.set_cons_succ, List.set_cons_zero]; rfl) ?_
      refine relCall1 rfl rfl rfl rfl (c := .agg (hcs (hdId y))) 25 #[.agg (hdc y).toArray] (fun w => by go_simp) (fun w hw => (HI2.out w).mono ?_) (by simp only [List.set_cons_succ, List.set_cons_zero]; rfl) ?_
      · rintro e w' ⟨rfl, b⟩
        exact ⟨rfl, b⟩
      refine relBin Ext.refl rfl rfl rfl rfl _ _ _ _ _ rfl (by conv => lhs; whnf) (by conv => lhs; whnf) (c := .bool q) (fun w => N1.out _ _ w) (by simp only [List.set_cons_succ, List.set_cons_zero]; rfl) ?_
      refine relEnd fun w2 hw2 => fill_end ?_
      have b2 := bw.trans (hw2.drew.mono bw.size)
      cases q
      · have hf2 : ∀ p, p < j + 1 → linkB l p = false := fun p hp => by
          by_cases e : p = j
          · rw [e]; exact hq.symm
          · exact hf.out p (by omega)
        replace hf2 := Lib.hid hf2
        go_wp2
        refine ⟨⟨j + 1, by omega, by omega, by go_num, b2, hf2⟩, ?_⟩
        simp [intOf]
        omega
      · go_wp2
        go_ret
        have eR : R = j := by rw [hR.out, mLinked, find_range (by rw [hn.out]; exact hlt) hq.symm hf.out]
        exact ⟨by rw [eR]; rfl, b2⟩
    · have t2 : decide ((j : Int) < (n : Int)) = false := by simp; omega
      go_wp2
      go_ret
      have eR : R = n := by
        rw [hR.out, mLinked, find_none (by
          intro q hq
          rw [hn.out] at hq
          exact hf.out q (by have := hj.out; omega))]
        exact hn.out
      exact ⟨by rw [eR]; rfl, bw⟩
end Go.Proofs.YtjgdmpbaikhflaaDoor
/- florinref07.number. -/
namespace Go.Proofs.YtjgdmpbaikhflaaDoor
open Go.RowKit
theorem rd_byte {w : World} {b off : Nat} {x : List UInt8} (r : Rd w (some ⟨b, off, none⟩) (x.map bv)) {p : Nat} {z : UInt8} (h : x[p]? = some z) : w.cell? ⟨b, off + p, none⟩ = some (.int .u8 (z.toNat : Int)) := by
  rcases r with r | ⟨b2, o2, h1, h2⟩
  · rw [List.map_eq_nil_iff] at r; rw [r] at h; cases h
  · injection h1 with h1
    injection h1 with h3 h4
    subst h3 h4
    exact h2 p _ (by rw [List.getElem?_map, h]; rfl)
theorem or_up (k a y : Nat) (h : a < 2 ^ k) (q : Nat) (hq : q = 2 ^ k) : a ||| y * q = a + y * q := by
  subst hq
  rw [Nat.mul_comm, Nat.or_comm, ← Nat.two_pow_add_eq_or_of_lt h, Nat.add_comm]
set_option maxRecDepth 100000 in
set_option maxHeartbeats 4000000 in
theorem RNum7 (x : List UInt8) (m at_ : Nat) (hxm : x.length = m) (h4 : at_ + 4 ≤ m) (hm : m ≤ 1000000) (A : Option Addr) (c : Nat) (w : World) (hrx : Rd w A (x.map bv)) :
    Calls Tryd.prog 35 #[.slice A m c, .int .i64 (at_ : Int)] w fun e w' => e = .returned (.int .u32 (Cm.le ((x.drop at_).take 4) : Int)) ∧ Below w.heap.size w w' := by
  obtain ⟨b, off, rfl⟩ := hrx.someA (by intro h; rw [List.map_eq_nil_iff] at h; rw [h] at hxm; simp at hxm; omega)
  obtain ⟨z0, hz0⟩ : ∃ z, x[at_]? = some z := ⟨_, List.getElem?_eq_getElem (by omega)⟩
  obtain ⟨y0, hy0⟩ : ∃ y, y = z0.toNat := ⟨_, rfl⟩
  have u0 : y0 < 256 := by rw [hy0]; exact Cm.u8_lt z0
  have c0 : Hid (∀ w', Below w.heap.size w w' → w'.cell? ⟨b, off + at_, none⟩ = some (.int .u8 (y0 : Int))) := Lib.hid (fun w' hE => by rw [hy0]; exact rd_byte (hrx.below hE) hz0)
  have a0 : Hid (IntKind.i64.wrap ((at_ : Int) + 0) = (at_ : Int)) := Lib.hid (by rw [IntKind.wrap_i64]; omega)
  have l0 : (0 : Int) ≤ (at_ : Int) := by omega
  have h0 : (at_ : Int) < (m : Int) := by omega
  have v0 : Hid (IntKind.u32.wrap (y0 : Int) = (y0 : Int)) := Lib.hid (by rw [IntKind.wrap_u32]; omega)
  obtain ⟨p1, hp1⟩ : ∃ p, p = at_ + 1 := ⟨_, rfl⟩
  obtain ⟨z1, hz1⟩ : ∃ z, x[p1]? = some z := ⟨_, List.getElem?_eq_getElem (by omega)⟩
  obtain ⟨y1, hy1⟩ : ∃ y, y = z1.toNat := ⟨_, rfl⟩
  have u1 : y1 < 256 := by rw [hy1]; exact Cm.u8_lt z1
  have c1 : Hid (∀ w', Below w.heap.size w w' → w'.cell? ⟨b, off + p1, none⟩ = some (.int .u8 (y1 : Int))) := Lib.hid (fun w' hE => by rw [hy1]; exact rd_byte (hrx.below hE) hz1)
  have a1 : Hid (IntKind.i64.wrap ((at_ : Int) + 1) = (p1 : Int)) := Lib.hid (by rw [IntKind.wrap_i64]; omega)
  have l1 : (0 : Int) ≤ (p1 : Int) := by omega
  have h1 : (p1 : Int) < (m : Int) := by omega
  have v1 : Hid (IntKind.u32.wrap (y1 : Int) = (y1 : Int)) := Lib.hid (by rw [IntKind.wrap_u32]; omega)
  obtain ⟨p2, hp2⟩ : ∃ p, p = at_ + 2 := ⟨_, rfl⟩
  obtain ⟨z2, hz2⟩ : ∃ z, x[p2]? = some z := ⟨_, List.getElem?_eq_getElem (by omega)⟩
  obtain ⟨y2, hy2⟩ : ∃ y, y = z2.toNat := ⟨_, rfl⟩
  have u2 : y2 < 256 := by rw [hy2]; exact Cm.u8_lt z2
  have c2 : Hid (∀ w', Below w.heap.size w w' → w'.cell? ⟨b, off + p2, none⟩ = some (.int .u8 (y2 : Int))) := Lib.hid (fun w' hE => by rw [hy2]; exact rd_byte (hrx.below hE) hz2)
  have a2 : Hid (IntKind.i64.wrap ((at_ : Int) + 2) = (p2 : Int)) := Lib.hid (by rw [IntKind.wrap_i64]; omega)
  have l2 : (0 : Int) ≤ (p2 : Int) := by omega
  have h2 : (p2 : Int) < (m : Int) := by omega
  have v2 : Hid (IntKind.u32.wrap (y2 : Int) = (y2 : Int)) := Lib.hid (by rw [IntKind.wrap_u32]; omega)
  obtain ⟨p3, hp3⟩ : ∃ p, p = at_ + 3 := ⟨_, rfl⟩
  obtain ⟨z3, hz3⟩ : ∃ z, x[p3]? = some z := ⟨_, List.getElem?_eq_getElem (by omega)⟩
  obtain ⟨y3, hy3⟩ : ∃ y, y = z3.toNat := ⟨_, rfl⟩
  have u3 : y3 < 256 := by rw [hy3]; exact Cm.u8_lt z3
  have c3 : Hid (∀ w', Below w.heap.size w w' → w'.cell? ⟨b, off + p3, none⟩ = some (.int .u8 (y3 : Int))) := Lib.hid (fun w' hE => by rw [hy3]; exact rd_byte (hrx.below hE) hz3)
  have a3 : Hid (IntKind.i64.wrap ((at_ : Int) + 3) = (p3 : Int)) := Lib.hid (by rw [IntKind.wrap_i64]; omega)
  have l3 : (0 : Int) ≤ (p3 : Int) := by omega
  have h3 : (p3 : Int) < (m : Int) := by omega
  have v3 : Hid (IntKind.u32.wrap (y3 : Int) = (y3 : Int)) := Lib.hid (by rw [IntKind.wrap_u32]; omega)
  obtain ⟨q1, hq1⟩ : ∃ q, q = y1 * 256 := ⟨_, rfl⟩
  have s1 : Hid (IntKind.u32.wrap ((y1 : Int) * 256) = (q1 : Int)) := Lib.hid (by rw [IntKind.wrap_u32]; omega)
  obtain ⟨q2, hq2⟩ : ∃ q, q = y2 * 65536 := ⟨_, rfl⟩
  have s2 : Hid (IntKind.u32.wrap ((y2 : Int) * 65536) = (q2 : Int)) := Lib.hid (by rw [IntKind.wrap_u32]; omega)
  obtain ⟨q3, hq3⟩ : ∃ q, q = y3 * 16777216 := ⟨_, rfl⟩
  have s3 : Hid (IntKind.u32.wrap ((y3 : Int) * 16777216) = (q3 : Int)) := Lib.hid (by rw [IntKind.wrap_u32]; omega)
  obtain ⟨r1, hr1⟩ : ∃ r, r = y0 + q1 := ⟨_, rfl⟩
  have o1 : Hid (bits .or .u32 (y0 : Int) (q1 : Int) = (r1 : Int)) := Lib.hid (by
    rw [(bits_nat .u32 32 (by decide) wraps_u32 y0 q1 (by omega) (by omega)).2, hr1, hq1, or_up 8 _ y1 (by omega) 256 (by decide)])
  obtain ⟨r2, hr2⟩ : ∃ r, r = r1 + q2 := ⟨_, rfl⟩
  have o2 : Hid (bits .or .u32 (r1 : Int) (q2 : Int) = (r2 : Int)) := Lib.hid (by
    rw [(bits_nat .u32 32 (by decide) wraps_u32 r1 q2 (by omega) (by omega)).2, hr2, hq2, or_up 16 _ y2 (by omega) 65536 (by decide)])
  obtain ⟨r3, hr3⟩ : ∃ r, r = r2 + q3 := ⟨_, rfl⟩
  have o3 : Hid (bits .or .u32 (r2 : Int) (q3 : Int) = (r3 : Int)) := Lib.hid (by
    rw [(bits_nat .u32 32 (by decide) wraps_u32 r2 q3 (by omega) (by omega)).2, hr3, hq3, or_up 24 _ y3 (by omega) 16777216 (by decide)])
  have hval : Cm.le ((x.drop at_).take 4) = r3 := by
    have g : ∀ i z, x[at_ + i]? = some z → (x.drop at_)[i]? = some z := fun i z h => by rw [List.getElem?_drop]; exact h
    have g0 := g 0 z0 hz0
    have g1 := g 1 z1 (by rw [← hp1]; exact hz1)
    have g2 := g 2 z2 (by rw [← hp2]; exact hz2)
    have g3 := g 3 z3 (by rw [← hp3]; exact hz3)
    rw [List.take_add_one, List.take_add_one, List.take_add_one, List.take_add_one, List.take_zero, g0, g1, g2, g3]
    simp only [List.nil_append, Option.toList_some, List.cons_append, Cm.le]
    omega
  rw [hval]
  replace hp1 := Lib.hid hp1
  replace hp2 := Lib.hid hp2
  replace hp3 := Lib.hid hp3
  replace hz0 := Lib.hid hz0
  replace hz1 := Lib.hid hz1
  replace hz2 := Lib.hid hz2
  replace hz3 := Lib.hid hz3
  replace hy0 := Lib.hid hy0
  replace hy1 := Lib.hid hy1
  replace hy2 := Lib.hid hy2
  replace hy3 := Lib.hid hy3
  replace hq1 := Lib.hid hq1
  replace hq2 := Lib.hid hq2
  replace hq3 := Lib.hid hq3
  replace hr1 := Lib.hid hr1
  replace hr2 := Lib.hid hr2
  replace hr3 := Lib.hid hr3
  replace hval := Lib.hid hval
  replace hxm := Lib.hid hxm
  clear h4 hm
  go_enter Tryd.func35, Tryd.ntmps35
  go_upto_region 1 with fail
  refine wp_region_rel [] Ext (by kernel_rfl) (by kernel_rfl) (by kernel_rfl) Ext.refl Ext.trans (by intro p hp; cases hp) ?_
  refine relMove Ext.refl rfl rfl rfl rfl _ (.inl rfl) (by conv => lhs; whnf) (by simp only [List.set_cons_succ, List.set_cons_zero]; rfl) ?_
  refine relMove Ext.refl rfl rfl rfl rfl _ (.inl rfl) (by conv => lhs; whnf) (by simp only [List.set_cons_succ, List.set_cons_zero]; rfl) ?_
  refine relPure Ext.refl rfl rfl rfl rfl (c := .pointer (some ⟨b, off + at_, none⟩)) (fun w _ => by have := l0; have := h0; go_simp; first | done | rfl) (by simp only [List.set_cons_succ, List.set_cons_zero]; rfl) ?_
  refine relPure Ext.refl rfl rfl rfl rfl (c := .int .u8 (y0 : Int)) (fun w hw => by have := c0.out _ hw.drew; go_simp; first | done | rfl) (by simp only [List.set_cons_succ, List.set_cons_zero]; rfl) ?_
  refine relPure Ext.refl rfl rfl rfl rfl (c := .int .u32 (y0 : Int)) (fun w _ => by have := v0.out; go_simp; first | done | rfl) (by simp only [List.set_cons_succ, List.set_cons_zero]; rfl) ?_
  refine relMove Ext.refl rfl rfl rfl rfl _ (.inl rfl) (by conv => lhs; whnf) (by simp only [List.set_cons_succ, List.set_cons_zero]; rfl) ?_
  refine relMove Ext.refl rfl rfl rfl rfl _ (.inl rfl) (by conv => lhs; whnf) (by simp only [List.set_cons_succ, List.set_cons_zero]; rfl) ?_
  refine relPure Ext.refl rfl rfl rfl rfl (c := .int .i64 (p1 : Int)) (fun w _ => by have := a1.out; go_simp; first | done | rfl) (by simp only [List.set_cons_succ, List.set_cons_zero]; rfl) ?_
  refine relPure Ext.refl rfl rfl rfl rfl (c := .pointer (some ⟨b, off + p1, none⟩)) (fun w _ => by have := l1; have := h1; go_simp; first | done | rfl) (by simp only [List.set_cons_succ, List.set_cons_zero]; rfl) ?_
  refine relPure Ext.refl rfl rfl rfl rfl (c := .int .u8 (y1 : Int)) (fun w hw => by have := c1.out _ hw.drew; go_simp; first | done | rfl) (by simp only [List.set_cons_succ, List.set_cons_zero]; rfl) ?_
  refine relPure Ext.refl rfl rfl rfl rfl (c := .int .u32 (y1 : Int)) (fun w _ => by have := v1.out; go_simp; first | done | rfl) (by simp only [List.set_cons_succ, List.set_cons_zero]; rfl) ?_
  refine relPure Ext.refl rfl rfl rfl rfl (c := .int .u32 (q1 : Int)) (fun w _ => by have := s1.out; go_simp; first | done | rfl) (by simp only [List.set_cons_succ, List.set_cons_zero]; rfl) ?_
  refine relPure Ext.refl rfl rfl rfl rfl (c := .int .u32 (r1 : Int)) (fun w _ => by have := o1.out; go_simp; first | done | rfl) (by simp only [List.set_cons_succ, List.set_cons_zero]; rfl) ?_
  refine relMove Ext.refl rfl rfl rfl rfl _ (.inl rfl) (by conv => lhs; whnf) (by simp only [List.set_cons_succ, List.set_cons_zero]; rfl) ?_
  refine relMove Ext.refl rfl rfl rfl rfl _ (.inl rfl) (by conv => lhs; whnf) (by simp only [List.set_cons_succ, List.set_cons_zero]; rfl) ?_
  refine relPure Ext.refl rfl rfl rfl rfl (c := .int .i64 (p2 : Int)) (fun w _ => by have := a2.out; go_simp; first | done | rfl) (by simp only [List.set_cons_succ, List.set_cons_zero]; rfl) ?_
  refine relPure Ext.refl rfl rfl rfl rfl (c := .pointer (some ⟨b, off + p2, none⟩)) (fun w _ => by have := l2; have := h2; go_simp; first | done | rfl) (by simp only [List.set_cons_succ, List.set_cons_zero]; rfl) ?_
  refine relPure Ext.refl rfl rfl rfl rfl (c := .int .u8 (y2 : Int)) (fun w hw => by have := c2.out _ hw.drew; go_simp; first | done | rfl) (by simp only [List.set_cons_succ, List.set_cons_zero]; rfl) ?_
  refine relPure Ext.refl rfl rfl rfl rfl (c := .int .u32 (y2 : Int)) (fun w _ => by have := v2.out; go_simp; first | done | rfl) (by simp only [List.set_cons_succ, List.set_cons_zero]; rfl) ?_
  refine relPure Ext.refl rfl rfl rfl rfl (c := .int .u32 (q2 : Int)) (fun w _ => by have := s2.out; go_simp; first | done | rfl) (by simp only [List.set_cons_succ, List.set_cons_zero]; rfl) ?_
  refine relPure Ext.refl rfl rfl rfl rfl (c := .int .u32 (r2 : Int)) (fun w _ => by have := o2.out; go_simp; first | done | rfl) (by simp only [List.set_cons_succ, List.set_cons_zero]; rfl) ?_
  refine relMove Ext.refl rfl rfl rfl rfl _ (.inl rfl) (by conv => lhs; whnf) (by simp only [List.set_cons_succ, List.set_cons_zero]; rfl) ?_
  refine relMove Ext.refl rfl rfl rfl rfl _ (.inl rfl) (by conv => lhs; whnf) (by simp only [List.set_cons_succ, List.set_cons_zero]; rfl) ?_
  refine relPure Ext.refl rfl rfl rfl rfl (c := .int .i64 (p3 : Int)) (fun w _ => by have := a3.out; go_simp; first | done | rfl) (by simp only [List.set_cons_succ, List.set_cons_zero]; rfl) ?_
  refine relPure Ext.refl rfl rfl rfl rfl (c := .pointer (some ⟨b, off + p3, none⟩)) (fun w _ => by have := l3; have := h3; go_simp; first | done | rfl) (by simp only [List.set_cons_succ, List.set_cons_zero]; rfl) ?_
  refine relPure Ext.refl rfl rfl rfl rfl (c := .int .u8 (y3 : Int)) (fun w hw => by have := c3.out _ hw.drew; go_simp; first | done | rfl) (by simp only [List.set_cons_succ, List.set_cons_zero]; rfl) ?_
  refine relPure Ext.refl rfl rfl rfl rfl (c := .int .u32 (y3 : Int)) (fun w _ => by have := v3.out; go_simp; first | done | rfl) (by simp only [List.set_cons_succ, List.set_cons_zero]; rfl) ?_
  refine relPure Ext.refl rfl rfl rfl rfl (c := .int .u32 (q3 : Int)) (fun w _ => by have := s3.out; go_simp; first | done | rfl) (by simp only [List.set_cons_succ, List.set_cons_zero]; rfl) ?_
  refine relPure Ext.refl rfl rfl rfl rfl (c := .int .u32 (r3 : Int)) (fun w _ => by have := o3.out; go_simp; first | done | rfl) (by simp only [List.set_cons_succ, List.set_cons_zero]; rfl) ?_
  refine relMove Ext.refl rfl rfl rfl rfl _ (.inr rfl) (by conv => lhs; whnf) (by simp only [List.set_cons_succ, List.set_cons_zero]; rfl) ?_
  refine relEnd fun w2 hw2 => fill_end ?_
  have b2 := hw2.drew
  clear hw2
  go_wp2
  go_ret
  exact ⟨rfl, b2⟩
end Go.Proofs.YtjgdmpbaikhflaaDoor
/- A struct or an array built of parts: part by part. -/
namespace Go.Proofs.YtjgdmpbaikhflaaDoor
open Go.RowKit
theorem fold_splice (off : Nat) : ∀ (xs old pre post : List Value) (k : Nat), old.length = xs.length → pre.length = off + k →
    (xs.zipIdx k).foldl (fun (cs : Array Value) (p : Value × Nat) => cs.setIfInBounds (off + p.2) p.1) (pre ++ (old ++ post)).toArray = (pre ++ (xs ++ post)).toArray
  | [], old, pre, post, k, h, _ => by
    have : old = [] := List.eq_nil_of_length_eq_zero h
    subst this
    rfl
  | x :: xs, [], pre, post, k, h, _ => by simp at h
  | x :: xs, y :: old, pre, post, k, h, hp => by
    simp only [List.zipIdx_cons, List.foldl_cons]
    have e : (pre ++ (y :: old ++ post)).toArray.setIfInBounds (off + k) x = ((pre ++ [x]) ++ (old ++ post)).toArray := by
      rw [List.setIfInBounds_toArray, ← hp, List.set_append_right _ _ (Nat.le_refl _)]
      simp
    rw [e, fold_splice off xs old (pre ++ [x]) post (k + 1) (by simpa using h) (by simp; omega)]
    simp
/-- one part -/
theorem fill_step {place : Nat → Option (Nat × Nat)} (pre old xs post : List Value) {i off size : Nat} {v : Value} {rest : List (Nat × Value)} (hp : place i = some (off, size)) (hv : v.cells = xs.toArray) (hx : xs.length = size) (ho : pre.length = off) (hl : old.length = size) :
    Instr.fill place (pre ++ (old ++ post)).toArray ((i, v) :: rest) = Instr.fill place (pre ++ (xs ++ post)).toArray rest := by
  rw [Instr.fill, hp]
  simp only
  rw [if_neg (by rw [hv]; simp [hx]; omega), hv]
  congr 1
  have := fold_splice off xs old pre post 0 (by omega) (by omega)
  rw [← this]
  simp
theorem built_struct {P : Program} {t : TypeId} {fields : Array Field} {z : Value} {places : List (Nat × Nat)} {parts : List (Nat × Value)} (hu : P.underlying t = some (.struct fields)) (hz : (P.info? t).map (·.zero) = some (some z))
    (hp : fields.toList.mapM (fun f => (P.info? f.type).map fun i => (f.offset, i.size)) = some places) : P.built t parts = Instr.fill (places.toArray[·]?) z.cells parts := by
  obtain ⟨i, hi, hzi⟩ := Option.map_eq_some_iff.1 hz
  unfold Program.built
  rw [hi, hu]
  simp only [hzi, hp]
theorem exec_build {P : Program} {t : TypeId} {cs : List Value} {w : World} {o : Oper} {ρ : Operand → Value} {ops : List (Nat × Operand)} (ho : o.op = .build t ops.toArray) (h : P.built t (ops.map fun p => (p.1, ρ p.2)) = some cs.toArray) : (execOp ρ o).run P w = .ok (.value (.agg cs.toArray)) w := by
  have := run_build (P := P) w t (ops.map fun p => (p.1, ρ p.2)).toArray cs.toArray (by simpa using h)
  unfold execOp
  simp only [ho, List.map_toArray]
  simp only [Sem.run_bind, this, Result.andThen_ok]
  rfl
end Go.Proofs.YtjgdmpbaikhflaaDoor
