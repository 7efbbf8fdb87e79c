/- MinMax; HdE: put together for the claim. -/
import Derived.Test.YtjgdmpbaikhflaaDoorPr1
import Derived.Test.YtjgdmpbaikhflaaDoorMts
import Derived.Test.YtjgdmpbaikhflaaDoorPr8
/- min and max of two ints, the answer under a name of one's own. -/
namespace Go.Proofs.YtjgdmpbaikhflaaDoor
open Go.RowKit
section
variable {P : Program} {w : World} {ops : Array Oper} {rest : List Oper} {o : Oper} {a : Act} {Q : Exit → Act → World → Prop}
theorem run_min_i64 (ats : Array TypeId) (ty : TypeId) (X Y Z : Int) (hz : min X Y = Z) (w : World) : (Builtin.min_ ats ty #[.int .i64 X, .int .i64 Y]).run P w = .ok (.int .i64 Z) w := by
  subst hz
  have h : min X Y = if Y < X then Y else X := by
    split <;> omega
  rw [h]
  simp [Builtin.min_, Builtin.min2, Sem.run_pure]
theorem run_max_i64 (ats : Array TypeId) (ty : TypeId) (X Y Z : Int) (hz : max X Y = Z) (w : World) : (Builtin.max_ ats ty #[.int .i64 X, .int .i64 Y]).run P w = .ok (.int .i64 Z) w := by
  subst hz
  have h : max X Y = if Y > X then Y else X := by
    split <;> omega
  rw [h]
  simp [Builtin.max_, Builtin.max2, Sem.run_pure]
theorem wpList_min (x y : Operand) (ats : Array TypeId) {X Y : Int} (Z : Int) (hz : min X Y = Z) (hgd : o.guard = none) (ho : o.op = .call { callee := .builtin .min, args := #[x, y], argTypes := ats })
    (hx : a.eval x = .int .i64 X) (hy : a.eval y = .int .i64 Y) (h : wpList P ops Q rest (a.put o.dst (.int .i64 Z)) w) : wpList P ops Q (o :: rest) a w := by
  refine wpList_plain hgd fun K hK => ?_
  unfold Oper.wp execOp
  simp only [ho, resolve, invoke, builtin, Sem.run_bind, Sem.run_pure, Result.andThen_ok, List.map_toArray, List.map_cons, List.map_nil, hx, hy, run_min_i64 _ _ X Y Z hz]
  exact hK _ _ h
theorem wpList_max (x y : Operand) (ats : Array TypeId) {X Y : Int} (Z : Int) (hz : max X Y = Z) (hgd : o.guard = none) (ho : o.op = .call { callee := .builtin .max, args := #[x, y], argTypes := ats })
    (hx : a.eval x = .int .i64 X) (hy : a.eval y = .int .i64 Y) (h : wpList P ops Q rest (a.put o.dst (.int .i64 Z)) w) : wpList P ops Q (o :: rest) a w := by
  refine wpList_plain hgd fun K hK => ?_
  unfold Oper.wp execOp
  simp only [ho, resolve, invoke, builtin, Sem.run_bind, Sem.run_pure, Result.andThen_ok, List.map_toArray, List.map_cons, List.map_nil, hx, hy, run_max_i64 _ _ X Y Z hz]
  exact hK _ _ h
end
end Go.Proofs.YtjgdmpbaikhflaaDoor
/- header.Mine. -/
namespace Go.Proofs.YtjgdmpbaikhflaaDoor
open Go.RowKit
/-- a header with its nonce moved on -/
def Hd.nth (h : Hd) (k : Nat) : Hd := { h with nonce := (h.nonce + k) % 4294967296 }
theorem Hd.nth_ok {h : Hd} (k : h.ok) (i : Nat) : (h.nth i).ok := ⟨k.1, k.2.1, k.2.2.1, k.2.2.2.1, k.2.2.2.2.1, Nat.mod_lt _ (by decide)⟩
theorem Hd.nth_zero {h : Hd} (k : h.ok) : h.nth 0 = h := by
  unfold Hd.nth
  rw [Nat.add_zero, Nat.mod_eq_of_lt k.2.2.2.2.2]
theorem Hd.nth_bits (h : Hd) (i : Nat) : (h.nth i).bits = h.bits := rfl
theorem hdc_nonce {h : Hd} (k : h.ok) (z : Nat) : (hdc h).set 67 (.int .u32 (z : Int)) = hdc { h with nonce := z } := by
  obtain ⟨_, h1, h2, _⟩ := k
  unfold hdc
  rw [List.set_append_right _ _ (by simp), List.set_append_right _ _ (by simp [h1]), List.set_append_right _ _ (by simp [h1, h2])]
  simp [h1, h2]
theorem hdc_next {h : Hd} (k : h.ok) (i : Nat) : (hdc (h.nth i)).set 67 (.int .u32 ((((h.nonce + i) % 4294967296 + 1) % 4294967296 : Nat) : Int)) = hdc (h.nth (i + 1)) := by
  rw [hdc_nonce (h.nth_ok k i) _]
  unfold Hd.nth
  congr 2
  omega
def mTry (h : Hd) (l k : Nat) : Bool := mMeets (hdId (h.nth k)) h.bits l == 0
/-- what header.Mine answers, of so many nonces -/
def mMine (h : Hd) (l n : Nat) : Hd × Bool := match (List.range n).find? (mTry h l) with
  | some k => (h.nth k, true)
  | none => (h, false)
theorem find_range {p : Nat → Bool} {n k : Nat} (hk : k < n) (h : p k = true) (hl : ∀ j, j < k → p j = false) : (List.range n).find? p = some k := by
  rw [List.find?_range_eq_some]
  exact ⟨h, by simpa using hk, fun j hj => by simpa using hl j hj⟩
theorem find_none {p : Nat → Bool} {n : Nat} (hl : ∀ j, j < n → p j = false) : (List.range n).find? p = none := by
  rw [List.find?_range_eq_none]
  exact fun j hj => by simpa using hl j hj
theorem size_u32' : (Tryd.prog.info? 22).map (·.size) = some 1 := by kernel_rfl
theorem infoHd : (Tryd.prog.info? 26).map (·.size) = some 68 := by kernel_rfl
set_option maxRecDepth 10000 in
set_option maxHeartbeats 4000000 in
theorem HdMine (h : Hd) (k : h.ok) (l : Nat) (hl : l < 4294967296) (tries : Int) (n : Nat) (hn : n = (min (max tries 0) 4096).toNat) (w : World) (ht : Tabs w) :
    Calls Tryd.prog 10 #[.agg (hdc h).toArray, .int .u32 (l : Int), .int .i64 tries] w fun e w' => e = .returned (.tuple #[.agg (hdc (mMine h l n).1).toArray, .bool (mMine h l n).2]) ∧ Below w.heap.size w w' := by
  have hn4 : n ≤ 4096 := by omega
  have tn : min (max tries 0) 4096 = (n : Int) := by omega
  have h68 : ∀ x : Hd, x.ok → (hdc x).length = 68 := fun x hx => hdc_length hx
  have HI := fun (x : Hd) (hx : x.ok) (w' : World) (t : Tabs w') => HdId x hx w' t
  have HMM := fun (x : Hd) (hx : x.ok) (w' : World) => Meets (hdId x) (hdId_length x) h.bits l k.2.2.2.2.1 hl w'
  have hz := zeros_68
  obtain ⟨zs, hzs⟩ : ∃ zs : List Value, zs = hdc ⟨0, List.replicate 32 0, List.replicate 32 0, 0, 0, 0⟩ := ⟨_, rfl⟩
  have hzl : zs.length = 68 := by rw [hzs]; rfl
  rw [← hzs] at hz
  clear hzs
  obtain ⟨W, hW⟩ : ∃ W, W = (w.alloc (.cells (hdc h).toArray 26)).alloc (.cells zs.toArray 26) := ⟨_, rfl⟩
  obtain ⟨H, hH⟩ : ∃ H, H = w.heap.size := ⟨_, rfl⟩
  have bW : Below H w W := by rw [hW, hH]; exact ((Below.refl _ _).alloc (Nat.le_refl _) _).alloc (by simp) _
  have aW : Av W H 26 (hdc h) := by rw [hW, hH]; exact heap_alloc2_old _ _ _
  have rW : Av W (H + 1) 26 zs := by rw [hW, hH]; exact heap_alloc2_new _ _ _
  have sW : W.heap.size = H + 2 := by rw [hW, hH]; simp
  have hh68 := Lib.hid (hdc_length k)
  obtain ⟨R, hR⟩ : ∃ R, R = mMine h l n := ⟨_, rfl⟩
  rw [← hR]
  replace hR := Lib.hid hR
  replace hW := Lib.hid hW
  replace sW := Lib.hid sW
  replace hH := Lib.hid hH
  replace hzl := Lib.hid hzl
  replace HI := Lib.hid HI
  replace HMM := Lib.hid HMM
  replace hn := Lib.hid hn
  go_enter Tryd.func10, Tryd.ntmps10
  go_upto_region 1 with fail
  rw [← hW.out, ← hH.out]
  go_upto_region 2 with (first
    | ((with_reducible refine wpList_loadF 26 aW ?_ _ 68 hh68.out Tryd.underlying26 ?_ ?_ ?_); rfl; rfl; kernel_rfl)
    | ((with_reducible refine wpList_storeF 26 ((Below.refl W.heap.size W).alloc (Nat.le_refl _) _) (heap_alloc_new _ _) (Nat.le_refl _) (hdc h) ?_ ?_ 68 hh68.out ?_ ?_ ?_ ?_); rfl; rfl; kernel_rfl; (rw [List.size_toArray]; exact hzl.out); exact List.all_eq_true.2 (hdc_one h); intro w2 a2 b2 k2 z2; clear k2; replace z2 := Lib.hid z2))
  rw [sW.out] at a2 ⊢
  have bw2 : Below H w w2 := bW.trans (b2.mono (by rw [sW.out]; omega))
  have aH := aW.below b2
  have rH := rW.below b2
  go_wp2_with (first
    | (refine wpList_max _ _ _ (max tries 0) rfl rfl rfl rfl rfl ?_)
    | (refine wpList_min _ _ _ (n : Int) tn rfl rfl rfl rfl ?_))
  go_loopw [13] (fun i wr => ∃ j : Nat, j ≤ n ∧ i = .int .i64 (j : Int) ∧ Hid (∀ q, q < j → mTry h l q = false) ∧ Below H w wr ∧ Av wr H 26 (hdc h) ∧ Av wr (H + 1) 26 zs ∧ Av wr (H + 2) 26 (hdc (h.nth j))) (fun i _ => n - (intOf i).toNat)
  case atStart => exact ⟨0, by omega, rfl, Lib.hid (fun q hq => by omega), bw2, aH, rH, by rw [Hd.nth_zero k]; exact a2⟩
  case round =>
    clear aW rW aH rH a2
    obtain ⟨j, hj, rfl, hf, bw, aH, rH, aG⟩ := hrel
    have hHt : w.heap.size ≤ H := by rw [hH.out]; exact Nat.le_refl _
    have hHb : H ≤ wr.heap.size := Nat.le_of_lt aH.lt
    by_cases hlt : j < n
    · have t1 : decide ((j : Int) < (n : Int)) = true := by simp; omega
      obtain ⟨x, hx⟩ : ∃ x, x = h.nth j := ⟨_, rfl⟩
      have xok : x.ok := by rw [hx]; exact h.nth_ok k j
      have x68 := hdc_length xok
      obtain ⟨_, _, x66, x67⟩ := hdc_at xok
      have xb : x.bits = h.bits := by rw [hx]; rfl
      rw [xb] at x66
      have HI2 := HI.out x xok
      have HM := HMM.out x xok
      have hm : mTry h l j = (mMeets (hdId x) h.bits l == 0) := by rw [mTry, ← hx]
      rw [← hx] at aG
      have hnx := hdc_next k j
      rw [← hx] at hnx
      obtain ⟨m, hmm⟩ : ∃ m, m = mMeets (hdId x) h.bits l := ⟨_, rfl⟩
      rw [← hmm] at HM hm
      replace hx := Lib.hid hx
      replace hmm := Lib.hid hmm
      obtain ⟨hb, hhb⟩ : ∃ b, b = h.bits := ⟨_, rfl⟩
      rw [← hhb] at x66 HM
      have hno : ∃ no : Nat, no = x.nonce ∧ no < 4294967296 ∧ no = (h.nonce + j) % 4294967296 := ⟨_, rfl, xok.2.2.2.2.2, by rw [hx.out]; rfl⟩
      obtain ⟨no, hno, hno2, hno3⟩ := hno
      rw [← hno] at x67
      rw [← hno3, show (((no + 1) % 4294967296 : Nat) : Int) = ((no : Int) + 1) % 4294967296 by omega] at hnx
      have ht2 := ht.below (bw.mono hHt) 
      replace hno := Lib.hid hno
      replace hno3 := Lib.hid hno3
      replace hhb := Lib.hid hhb
      replace hnx := Lib.hid hnx
      replace xb := Lib.hid xb
      replace HI2 := Lib.hid HI2
      replace HM := Lib.hid HM
      go_upto_region 4 with fail
      by_cases hm0 : m = 0
      · go_wp2_with fail
        refine wp_region_rel [] Ext (by kernel_rfl) (by kernel_rfl) (by kernel_rfl) Ext.refl Ext.trans (by intro p hp; cases hp) ?_
        refine relPure Ext.refl rfl rfl rfl rfl (c := .agg (hdc x).toArray) (fun w hw => exec_loadAv (aG.below hw.drew) _ _ rfl rfl _ 68 x68 Tryd.underlying26 rfl (by kernel_rfl)) (by simp only [List.set_cons_succ, List.set_cons_zero]; rfl) ?_
        refine relCall1 rfl rfl rfl rfl (c := .agg (hcs (hdId x))) 12 #[.agg (hdc x).toArray] (fun w => by go_simp) (fun w hw => (HI2.out w (ht2.below hw.drew)).mono ?_) (by simp only [List.set_cons_succ, List.set_cons_zero]; rfl) ?_
        · rintro e w' ⟨rfl, hb⟩
          exact ⟨rfl, hb⟩
        refine relPure Ext.refl rfl rfl rfl rfl (fun w _ => by go_simp; first | done | rfl) (by simp only [List.set_cons_succ, List.set_cons_zero]; rfl) ?_
        refine relPure Ext.refl rfl rfl rfl rfl (c := .int .u32 (hb : Int)) (fun w hw => by have := (aG.below hw.drew).cell 66 _ x66; go_simp; first | done | rfl) (by simp only [List.set_cons_succ, List.set_cons_zero]; rfl) ?_
        refine relMove Ext.refl rfl rfl rfl rfl _ (.inl rfl) (by conv => lhs; whnf) (by simp only [List.set_cons_succ, List.set_cons_zero]; rfl) ?_
        refine relCall1 rfl rfl rfl rfl (c := .int .i64 (m : Int)) 11 #[.agg (hcs (hdId x)), .int .u32 (hb : Int), .int .u32 (l : Int)] (fun w => by go_simp) (fun w hw => (HM.out w).mono ?_) (by simp only [List.set_cons_succ, List.set_cons_zero]; rfl) ?_
        · rintro e w' ⟨rfl, hb⟩
          exact ⟨rfl, hb⟩
        refine relPure Ext.refl rfl rfl rfl rfl (c := .bool true) (fun w _ => by go_simp; first | done | rfl | omega) (by simp only [List.set_cons_succ, List.set_cons_zero]; rfl) ?_
        refine relEnd fun w3 hw3 => fill_end ?_
        have g3 := aG.below hw3.drew
        have r3 := rH.below hw3.drew
        have b3 := bw.trans (hw3.drew.mono hHb)
        have hH1 : H ≤ H + 1 := by omega
        have one := Lib.hid (List.all_eq_true.2 (hdc_one x))
        replace x68 := Lib.hid x68
        go_wp2_with (first
          | ((with_reducible refine wpList_loadF 26 g3 ?_ _ 68 x68.out Tryd.underlying26 ?_ ?_ ?_); rfl; rfl; kernel_rfl)
          | ((with_reducible refine wpList_storeFA 26 b3 r3 hH1 (hdc x) ?_ ?_ 68 x68.out ?_ ?_ ?_ ?_); rfl; rfl; kernel_rfl; exact hzl.out; exact one.out; intro w4 a4 b4 k4 z4))
        have eR : R = (x, true) := by
          rw [hR.out, mMine, find_range hlt (by rw [hm, hm0]; rfl) hf.out]
          dsimp only
          rw [← hx.out]
        refine bodyPost_ret (v := .tuple #[.agg (hdc x).toArray, .bool true]) ((results_cellU (C := hdc x) (by rfl) (by rfl) a4 _ Tryd.underlying26 rfl 68 x68.out (by kernel_rfl)).trans (by rfl)) (by rfl) ?_
        exact ⟨by rw [eR], by rw [← hH.out]; exact b4⟩
      · have t3 : ((m : Int) == 0) = false := by simp; omega
        go_wp2_with fail
        refine wp_region_rel [] Ext (by kernel_rfl) (by kernel_rfl) (by kernel_rfl) Ext.refl Ext.trans (by intro p hp; cases hp) ?_
        refine relPure Ext.refl rfl rfl rfl rfl (c := .agg (hdc x).toArray) (fun w hw => exec_loadAv (aG.below hw.drew) _ _ rfl rfl _ 68 x68 Tryd.underlying26 rfl (by kernel_rfl)) (by simp only [List.set_cons_succ, List.set_cons_zero]; rfl) ?_
        refine relCall1 rfl rfl rfl rfl (c := .agg (hcs (hdId x))) 12 #[.agg (hdc x).toArray] (fun w => by go_simp) (fun w hw => (HI2.out w (ht2.below hw.drew)).mono ?_) (by simp only [List.set_cons_succ, List.set_cons_zero]; rfl) ?_
        · rintro e w' ⟨rfl, hb⟩
          exact ⟨rfl, hb⟩
        refine relPure Ext.refl rfl rfl rfl rfl (fun w _ => by go_simp; first | done | rfl) (by simp only [List.set_cons_succ, List.set_cons_zero]; rfl) ?_
        refine relPure Ext.refl rfl rfl rfl rfl (c := .int .u32 (hb : Int)) (fun w hw => by have := (aG.below hw.drew).cell 66 _ x66; go_simp; first | done | rfl) (by simp only [List.set_cons_succ, List.set_cons_zero]; rfl) ?_
        refine relMove Ext.refl rfl rfl rfl rfl _ (.inl rfl) (by conv => lhs; whnf) (by simp only [List.set_cons_succ, List.set_cons_zero]; rfl) ?_
        refine relCall1 rfl rfl rfl rfl (c := .int .i64 (m : Int)) 11 #[.agg (hcs (hdId x)), .int .u32 (hb : Int), .int .u32 (l : Int)] (fun w => by go_simp) (fun w hw => (HM.out w).mono ?_) (by simp only [List.set_cons_succ, List.set_cons_zero]; rfl) ?_
        · rintro e w' ⟨rfl, hb⟩
          exact ⟨rfl, hb⟩
        refine relPure Ext.refl rfl rfl rfl rfl (c := .bool false) (fun w _ => by go_simp; first | done | rfl | omega) (by simp only [List.set_cons_succ, List.set_cons_zero]; rfl) ?_
        refine relEnd fun w3 hw3 => fill_end ?_
        have g3 := aG.below hw3.drew
        have r3 := rH.below hw3.drew
        have h3 := aH.below hw3.drew
        have b3 := bw.trans (hw3.drew.mono hHb)
        have y67 := g3.cell 67 _ x67
        have hl67 : 67 < (hdc x).length := by rw [x68]; omega
        go_upto_region 7 with ((with_reducible refine wpList_storeI 22 g3 hl67 .u32 (((no : Int) + 1) % 4294967296) ?_ ?_ size_u32' ?_); rfl; rfl; intro w4 a4 f4)
        rw [hnx.out] at a4
        have r4 := f4.av r3 (by omega)
        have h4 := f4.av h3 (by omega)
        have b4 := b3.trans (f4.below (B := H) (fun k hk => by omega) (Nat.le_of_lt h3.lt))
        have hf2 : ∀ q, q < j + 1 → mTry h l q = false := fun q hq => by
          by_cases e : q = j
          · rw [e, hm]; simpa using hm0
          · exact hf.out q (by omega)
        replace hf2 := Lib.hid hf2
        go_wp2
        refine ⟨⟨j + 1, by omega, by go_num, hf2, b4, h4, r4, a4⟩, ?_⟩
        simp [intOf]
        omega
    · obtain rfl : j = n := by omega
      have t1 : decide ((j : Int) < (j : Int)) = false := by simp
      have hH1 : H ≤ H + 1 := by omega
      have one := Lib.hid (List.all_eq_true.2 (hdc_one h))
      go_upto_region 8 with fail
      go_wp2_with (first
        | ((with_reducible refine wpList_loadF 26 aH ?_ _ 68 hh68.out Tryd.underlying26 ?_ ?_ ?_); rfl; rfl; kernel_rfl)
        | ((with_reducible refine wpList_storeFA 26 bw rH hH1 (hdc h) ?_ ?_ 68 hh68.out ?_ ?_ ?_ ?_); rfl; rfl; kernel_rfl; exact hzl.out; exact one.out; intro w4 a4 b4 k4 z4))
      have eR : R = (h, false) := by
        rw [hR.out, mMine, find_none hf.out]
      refine bodyPost_ret (v := .tuple #[.agg (hdc h).toArray, .bool false]) ((results_cellU (C := hdc h) (by rfl) (by rfl) a4 _ Tryd.underlying26 rfl 68 hh68.out (by kernel_rfl)).trans (by rfl)) (by rfl) ?_
      exact ⟨by rw [eR], by rw [← hH.out]; exact b4⟩
end Go.Proofs.YtjgdmpbaikhflaaDoor
