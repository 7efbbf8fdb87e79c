/- florinref07.Mine, PutAll. -/
import Derived.Test.YtjgdmpbaikhflaaDoorPr12
import Derived.Test.YtjgdmpbaikhflaaDoorHdL
import Derived.Test.YtjgdmpbaikhflaaDoorPr17
import Derived.Test.YtjgdmpbaikhflaaDoorPr19
namespace Go.Proofs.YtjgdmpbaikhflaaDoor
open Go.RowKit
set_option maxRecDepth 10000 in
set_option maxHeartbeats 4000000 in
theorem RMine7 (h : Hd) (k : h.ok) (l : Nat) (hl : l < 4294967296) (tries : Int) (n : Nat) (hn : n = (min (max tries 0) 4096).toNat) (w : World) :
    Calls Tryd.prog 21 #[.agg (hdc h).toArray, .int .u32 (l : Int), .int .i64 tries] w fun e w' => e = .returned (.tuple #[.agg (hdc (mMine h l n).1).toArray, .bool (mMine h l n).2]) ∧ Below w.heap.size w w' := by
  have hn4 : n ≤ 4096 := by omega
  obtain ⟨M, hM⟩ : ∃ M, min tries 4096 = M := ⟨_, rfl⟩
  have hMn : ∀ j : Nat, j ≤ n → (j : Int) < M ∨ j = n ∧ ¬ (j : Int) < M := by intro j hj; omega
  have hMl : ∀ j : Nat, j < n → (j : Int) < M := by intro j hj; omega
  have hMe : ¬ (n : Int) < M := by omega
  clear hMn
  replace hM := Lib.hid hM
  replace hMl := Lib.hid hMl
  replace hMe := Lib.hid hMe
  have hn4 : n ≤ 4096 := hn4
  have h68 : ∀ x : Hd, x.ok → (hdc x).length = 68 := fun x hx => hdc_length hx
  have HI := fun (x : Hd) (hx : x.ok) (w' : World) => RId7 x hx w'
  have HMM := fun (x : Hd) (hx : x.ok) (w' : World) => RMeets (hdId x) (hdId_length x) h.bits l k.2.2.2.2.1 hl w'
  have hz := zeros_68
  obtain ⟨zs, hzs⟩ : ∃ zs : List Value, zs = hdc ⟨0, List.replicate 32 0, List.replicate 32 0, 0, 0, 0⟩ := ⟨_, rfl⟩
  have hzl : zs.length = 68 := by rw [hzs]; rfl
  rw [← hzs] at hz
  clear hzs
  obtain ⟨W, hW⟩ : ∃ W, W = (w.alloc (.cells (hdc h).toArray 26)).alloc (.cells zs.toArray 26) := ⟨_, rfl⟩
  obtain ⟨H, hH⟩ : ∃ H, H = w.heap.size := ⟨_, rfl⟩
  have bW : Below H w W := by rw [hW, hH]; exact ((Below.refl _ _).alloc (Nat.le_refl _) _).alloc (by simp) _
  have aW : Av W H 26 (hdc h) := by rw [hW, hH]; exact heap_alloc2_old _ _ _
  have rW : Av W (H + 1) 26 zs := by rw [hW, hH]; exact heap_alloc2_new _ _ _
  have sW : W.heap.size = H + 2 := by rw [hW, hH]; simp
  have hh68 := Lib.hid (hdc_length k)
  obtain ⟨R, hR⟩ : ∃ R, R = mMine h l n := ⟨_, rfl⟩
  rw [← hR]
  replace hR := Lib.hid hR
  replace hW := Lib.hid hW
  replace sW := Lib.hid sW
  replace hH := Lib.hid hH
  replace hzl := Lib.hid hzl
  replace HI := Lib.hid HI
  replace HMM := Lib.hid HMM
  replace hn := Lib.hid hn
  go_enter Tryd.func21, Tryd.ntmps21
  go_upto_region 1 with fail
  rw [← hW.out, ← hH.out]
  go_upto_region 2 with (first
    | ((with_reducible refine wpList_loadF 26 aW ?_ _ 68 hh68.out Tryd.underlying26 ?_ ?_ ?_); rfl; rfl; kernel_rfl)
    | ((with_reducible refine wpList_storeF 26 ((Below.refl W.heap.size W).alloc (Nat.le_refl _) _) (heap_alloc_new _ _) (Nat.le_refl _) (hdc h) ?_ ?_ 68 hh68.out ?_ ?_ ?_ ?_); rfl; rfl; kernel_rfl; (rw [List.size_toArray]; exact hzl.out); exact List.all_eq_true.2 (hdc_one h); intro w2 a2 b2 k2 z2; clear k2; replace z2 := Lib.hid z2))
  rw [sW.out] at a2 ⊢
  have bw2 : Below H w w2 := bW.trans (b2.mono (by rw [sW.out]; omega))
  have aH := aW.below b2
  have rH := rW.below b2
  go_wp2
  go_loopw [9] (fun i wr => ∃ j : Nat, j ≤ n ∧ i = .int .i64 (j : Int) ∧ Hid (∀ q, q < j → mTry h l q = false) ∧ Below H w wr ∧ Av wr H 26 (hdc h) ∧ Av wr (H + 1) 26 zs ∧ Av wr (H + 2) 26 (hdc (h.nth j))) (fun i _ => n - (intOf i).toNat)
  case atStart => exact ⟨0, by omega, rfl, Lib.hid (fun q hq => by omega), bw2, aH, rH, by rw [Hd.nth_zero k]; exact a2⟩
  case round =>
    clear aW rW aH rH a2
    obtain ⟨j, hj, rfl, hf, bw, aH, rH, aG⟩ := hrel
    have hHt : w.heap.size ≤ H := by rw [hH.out]; exact Nat.le_refl _
    have hHb : H ≤ wr.heap.size := Nat.le_of_lt aH.lt
    by_cases hlt : j < n
    · have t1 : decide ((j : Int) < M) = true := by simpa using hMl.out j hlt
      obtain ⟨x, hx⟩ : ∃ x, x = h.nth j := ⟨_, rfl⟩
      have xok : x.ok := by rw [hx]; exact h.nth_ok k j
      have x68 := hdc_length xok
      obtain ⟨_, _, x66, x67⟩ := hdc_at xok
      have xb : x.bits = h.bits := by rw [hx]; rfl
      rw [xb] at x66
      have HI2 := HI.out x xok
      have HM := HMM.out x xok
      have hm : mTry h l j = (mMeets (hdId x) h.bits l == 0) := by rw [mTry, ← hx]
      rw [← hx] at aG
      have hnx := hdc_next k j
      rw [← hx] at hnx
      obtain ⟨m, hmm⟩ : ∃ m, m = mMeets (hdId x) h.bits l := ⟨_, rfl⟩
      rw [← hmm] at HM hm
      replace hx := Lib.hid hx
      replace hmm := Lib.hid hmm
      obtain ⟨hb, hhb⟩ : ∃ b, b = h.bits := ⟨_, rfl⟩
      rw [← hhb] at x66 HM
      have hno : ∃ no : Nat, no = x.nonce ∧ no < 4294967296 ∧ no = (h.nonce + j) % 4294967296 := ⟨_, rfl, xok.2.2.2.2.2, by rw [hx.out]; rfl⟩
      obtain ⟨no, hno, hno2, hno3⟩ := hno
      rw [← hno] at x67
      rw [← hno3, show (((no + 1) % 4294967296 : Nat) : Int) = ((no : Int) + 1) % 4294967296 by omega] at hnx
      replace hno := Lib.hid hno
      replace hno3 := Lib.hid hno3
      replace hhb := Lib.hid hhb
      replace hnx := Lib.hid hnx
      replace xb := Lib.hid xb
      replace HI2 := Lib.hid HI2
      replace HM := Lib.hid HM
      go_upto_region 5 with (refine wpList_min _ _ _ M hM.out rfl rfl rfl rfl ?_)
      by_cases hm0 : m = 0
      · go_wp2_with fail
        refine wp_region_rel [] Ext (by kernel_rfl) (by kernel_rfl) (by kernel_rfl) Ext.refl Ext.trans (by intro p hp; cases hp) ?_
        refine relPure Ext.refl rfl rfl rfl rfl (c := .agg (hdc x).toArray) (fun w hw => exec_loadAv (aG.below hw.drew) _ _ rfl rfl _ 68 x68 Tryd.underlying26 rfl (by kernel_rfl)) (by simp only [List.set_cons_succ, List.set_cons_zero]; rfl) ?_
        refine relCall1 rfl rfl rfl rfl (c := .agg (hcs (hdId x))) 25 #[.agg (hdc x).toArray] (fun w => by go_simp) (fun w hw => (HI2.out w).mono ?_) (by simp only [List.set_cons_succ, List.set_cons_zero]; rfl) ?_
        · rintro e w' ⟨rfl, hb⟩
          exact ⟨rfl, hb⟩
        refine relPure Ext.refl rfl rfl rfl rfl (fun w _ => by go_simp; first | done | rfl) (by simp only [List.set_cons_succ, List.set_cons_zero]; rfl) ?_
        refine relPure Ext.refl rfl rfl rfl rfl (c := .int .u32 (hb : Int)) (fun w hw => by have := (aG.below hw.drew).cell 66 _ x66; go_simp; first | done | rfl) (by simp only [List.set_cons_succ, List.set_cons_zero]; rfl) ?_
        refine relMove Ext.refl rfl rfl rfl rfl _ (.inl rfl) (by conv => lhs; whnf) (by simp only [List.set_cons_succ, List.set_cons_zero]; rfl) ?_
        refine relCall1 rfl rfl rfl rfl (c := .int .i64 (m : Int)) 36 #[.agg (hcs (hdId x)), .int .u32 (hb : Int), .int .u32 (l : Int)] (fun w => by go_simp) (fun w hw => (HM.out w).mono ?_) (by simp only [List.set_cons_succ, List.set_cons_zero]; rfl) ?_
        · rintro e w' ⟨rfl, hb⟩
          exact ⟨rfl, hb⟩
        refine relPure Ext.refl rfl rfl rfl rfl (c := .bool true) (fun w _ => by go_simp; first | done | rfl | omega) (by simp only [List.set_cons_succ, List.set_cons_zero]; rfl) ?_
        refine relEnd fun w3 hw3 => fill_end ?_
        have g3 := aG.below hw3.drew
        have r3 := rH.below hw3.drew
        have b3 := bw.trans (hw3.drew.mono hHb)
        have hH1 : H ≤ H + 1 := by omega
        have one := Lib.hid (List.all_eq_true.2 (hdc_one x))
        replace x68 := Lib.hid x68
        go_wp2_with (first
          | ((with_reducible refine wpList_loadF 26 g3 ?_ _ 68 x68.out Tryd.underlying26 ?_ ?_ ?_); rfl; rfl; kernel_rfl)
          | ((with_reducible refine wpList_storeFA 26 b3 r3 hH1 (hdc x) ?_ ?_ 68 x68.out ?_ ?_ ?_ ?_); rfl; rfl; kernel_rfl; exact hzl.out; exact one.out; intro w4 a4 b4 k4 z4))
        have eR : R = (x, true) := by
          rw [hR.out, mMine, find_range hlt (by rw [hm, hm0]; rfl) hf.out]
          dsimp only
          rw [← hx.out]
        refine bodyPost_ret (v := .tuple #[.agg (hdc x).toArray, .bool true]) ((results_cellU (C := hdc x) (by rfl) (by rfl) a4 _ Tryd.underlying26 rfl 68 x68.out (by kernel_rfl)).trans (by rfl)) (by rfl) ?_
        exact ⟨by rw [eR], by rw [← hH.out]; exact b4⟩
      · have t3 : ((m : Int) == 0) = false := by simp; omega
        go_wp2_with fail
        refine wp_region_rel [] Ext (by kernel_rfl) (by kernel_rfl) (by kernel_rfl) Ext.refl Ext.trans (by intro p hp; cases hp) ?_
        refine relPure Ext.refl rfl rfl rfl rfl (c := .agg (hdc x).toArray) (fun w hw => exec_loadAv (aG.below hw.drew) _ _ rfl rfl _ 68 x68 Tryd.underlying26 rfl (by kernel_rfl)) (by simp only [List.set_cons_succ, List.set_cons_zero]; rfl) ?_
        refine relCall1 rfl rfl rfl rfl (c := .agg (hcs (hdId x))) 25 #[.agg (hdc x).toArray] (fun w => by go_simp) (fun w hw => (HI2.out w).mono ?_) (by simp only [List.set_cons_succ, List.set_cons_zero]; rfl) ?_
        · rintro e w' ⟨rfl, hb⟩
          exact ⟨rfl, hb⟩
        refine relPure Ext.refl rfl rfl rfl rfl (fun w _ => by go_simp; first | done | rfl) (by simp only [List.set_cons_succ, List.set_cons_zero]; rfl) ?_
        refine relPure Ext.refl rfl rfl rfl rfl (c := .int .u32 (hb : Int)) (fun w hw => by have := (aG.below hw.drew).cell 66 _ x66; go_simp; first | done | rfl) (by simp only [List.set_cons_succ, List.set_cons_zero]; rfl) ?_
        refine relMove Ext.refl rfl rfl rfl rfl _ (.inl rfl) (by conv => lhs; whnf) (by simp only [List.set_cons_succ, List.set_cons_zero]; rfl) ?_
        refine relCall1 rfl rfl rfl rfl (c := .int .i64 (m : Int)) 36 #[.agg (hcs (hdId x)), .int .u32 (hb : Int), .int .u32 (l : Int)] (fun w => by go_simp) (fun w hw => (HM.out w).mono ?_) (by simp only [List.set_cons_succ, List.set_cons_zero]; rfl) ?_
        · rintro e w' ⟨rfl, hb⟩
          exact ⟨rfl, hb⟩
        refine relPure Ext.refl rfl rfl rfl rfl (c := .bool false) (fun w _ => by go_simp; first | done | rfl | omega) (by simp only [List.set_cons_succ, List.set_cons_zero]; rfl) ?_
        refine relEnd fun w3 hw3 => fill_end ?_
        have g3 := aG.below hw3.drew
        have r3 := rH.below hw3.drew
        have h3 := aH.below hw3.drew
        have b3 := bw.trans (hw3.drew.mono hHb)
        have y67 := g3.cell 67 _ x67
        have hl67 : 67 < (hdc x).length := by rw [x68]; omega
        go_upto_region 4 with ((with_reducible refine wpList_storeI 22 g3 hl67 .u32 (((no : Int) + 1) % 4294967296) ?_ ?_ size_u32' ?_); rfl; rfl; intro w4 a4 f4)
        rw [hnx.out] at a4
        have r4 := f4.av r3 (by omega)
        have h4 := f4.av h3 (by omega)
        have b4 := b3.trans (f4.below (B := H) (fun k hk => by omega) (Nat.le_of_lt h3.lt))
        have hf2 : ∀ q, q < j + 1 → mTry h l q = false := fun q hq => by
          by_cases e : q = j
          · rw [e, hm]; simpa using hm0
          · exact hf.out q (by omega)
        replace hf2 := Lib.hid hf2
        go_wp2
        refine ⟨⟨j + 1, by omega, by go_num, hf2, b4, h4, r4, a4⟩, ?_⟩
        simp [intOf]
        omega
    · obtain rfl : j = n := by omega
      have t1 : decide ((j : Int) < M) = false := by simpa using hMe.out
      have hH1 : H ≤ H + 1 := by omega
      have one := Lib.hid (List.all_eq_true.2 (hdc_one h))
      go_upto_region 8 with (refine wpList_min _ _ _ M hM.out rfl rfl rfl rfl ?_)
      go_wp2_with (first
        | ((with_reducible refine wpList_loadF 26 aH ?_ _ 68 hh68.out Tryd.underlying26 ?_ ?_ ?_); rfl; rfl; kernel_rfl)
        | ((with_reducible refine wpList_storeFA 26 bw rH hH1 (hdc h) ?_ ?_ 68 hh68.out ?_ ?_ ?_ ?_); rfl; rfl; kernel_rfl; exact hzl.out; exact one.out; intro w4 a4 b4 k4 z4))
      have eR : R = (h, false) := by
        rw [hR.out, mMine, find_none hf.out]
      refine bodyPost_ret (v := .tuple #[.agg (hdc h).toArray, .bool false]) ((results_cellU (C := hdc h) (by rfl) (by rfl) a4 _ Tryd.underlying26 rfl 68 hh68.out (by kernel_rfl)).trans (by rfl)) (by rfl) ?_
      exact ⟨by rw [eR], by rw [← hH.out]; exact b4⟩
set_option maxRecDepth 10000 in
set_option maxHeartbeats 4000000 in
theorem RPutAll7 (l : List Hd) (A : Option Addr) (n c : Nat) (hn : l.length = n) (hn2 : n ≤ 2000) (w : World) (hr : RdHds w A l) :
    Calls Tryd.prog 22 #[.slice A n c] w fun e w' => ∃ v, e = .returned (.tuple #[v, .int .i64 0]) ∧ OwnB w' w.heap.size v (hdAll l) ∧ Below w.heap.size w w' := by
  have t1 : decide ((2000 : Int) < (n : Int)) = false := by simp; omega
  have e1 : IntKind.u64.wrap (n : Int) = (n : Int) := by rw [IntKind.wrap_u64]; omega
  have HP := fun w => ref04_Put [] none 0 0 (n : Int) (by omega) (Cm.put n) (by simp) w (Rd.nil _ _) rfl (by omega)
  have HH := fun (x : Hd) (hx : x.ok) (w' : World) => RPut7 x hx w'
  have hpl : (Cm.put n).length ≤ 9 := by rw [Cm.put_length]; exact (Cm.size_le n).2
  replace HP := Lib.hid HP
  replace HH := Lib.hid HH
  replace hn := Lib.hid hn
  go_enter Tryd.func22, Tryd.ntmps22
  go_wp2_with (go_at_call 37; refine (HP.out w).mono ?_; rintro e w1 ⟨v1, rfl, o1, b1⟩)
  go_loopw [4, 5] (fun v i wr => ∃ j : Nat, j ≤ n ∧ i = .int .i64 (j : Int) ∧ Below w.heap.size w wr ∧ OwnB wr w.heap.size v (Cm.put n ++ (l.take j).flatMap fun h => hdB h ++ [0])) (fun _ i _ => n - (intOf i).toNat)
  case atStart => exact ⟨0, by omega, rfl, b1, by simpa using o1⟩
  case round =>
    clear o1 b1
    obtain ⟨j, hj, rfl, bw, ow⟩ := hrel
    by_cases hlt : j < n
    · have t2 : decide ((j : Int) < (n : Int)) = true := by simp; omega
      obtain ⟨x, hx⟩ : ∃ x, l[j]? = some x := ⟨_, List.getElem?_eq_getElem (by rw [hn.out]; exact hlt)⟩
      obtain ⟨b, off, rfl⟩ := hr.adr (by rw [hn.out]; omega)
      obtain ⟨rx, xok⟩ := (hr.below bw).nth j x hx
      have x68 := Lib.hid (hdc_length xok)
      have rx2 := Lib.hid rx
      have HX := HH.out x xok
      have hxs : l.take (j + 1) = l.take j ++ [x] := by rw [List.take_add_one, hx]; rfl
      obtain ⟨cs, hcs⟩ : ∃ cs, cs = Cm.put n ++ (l.take j).flatMap fun h => hdB h ++ [0] := ⟨_, rfl⟩
      rw [← hcs] at ow
      have hcl : cs.length ≤ 1000000 := by
        rw [hcs, List.length_append, flat_length _ 81 _ (fun e he => by rw [List.length_append, hdB_length (hr.2 e (List.mem_of_mem_take he))]; rfl), List.length_take]
        omega
      have hB := hdB_length xok
      replace HX := Lib.hid HX
      replace hcs := Lib.hid hcs
      replace hB := Lib.hid hB
      replace hx := Lib.hid hx
      replace hxs := Lib.hid hxs
      have one := Lib.hid (List.all_eq_true.2 (hdc_one x))
      clear rx
      have m0 : 0 ≤ (j : Int) := by omega
      have m1 : (j : Int) < (n : Int) := by omega
      go_upto_region 8 with (first
        | ((with_reducible refine wpList_loadMF 26 (hdc x) rx2.out ?_ _ Tryd.underlying26 ?_ ?_ ?_); rfl; rfl; (rw [x68.out]; kernel_rfl))
        | (go_at_call 24; refine (HX.out wr).mono ?_; rintro e w3 ⟨⟨A3, c3, rfl, o3⟩, b3⟩; have bw3 := bw.trans (b3.mono bw.size); have ow3 := ow.below b3)
        | (at_builtin; refine wpList_appB ow3 bw3 bw3.size 80 c3 o3.rd hB.out (by omega) rfl (.tmp 19) (.tmp 24) rfl rfl rfl ?_; intro v4 w4 ow4 bw4 _ _))
      have hl4 : (cs ++ hdB x).length + 1 ≤ 140737488355328 := by rw [List.length_append, hB.out]; omega
      go_wp2_with (at_builtin; refine wpList_appB1 ow4 bw4 bw4.size 0 rfl hl4 rfl (.tmp 26) (.tmp 27) rfl rfl rfl ?_; intro v5 w5 ow5 bw5 _)
      have e5 : cs ++ hdB x ++ [0] = Cm.put n ++ (l.take (j + 1)).flatMap fun h => hdB h ++ [0] := by
        rw [hcs.out, hxs.out, List.flatMap_append, List.flatMap_cons, List.flatMap_nil, List.append_nil]
        simp only [List.append_assoc]
      rw [e5] at ow5
      replace e5 := Lib.hid e5
      refine ⟨⟨j + 1, by omega, by go_num, bw5, ow5⟩, ?_⟩
      simp [intOf]
      omega
    · obtain rfl : j = n := by omega
      have t2 : decide ((j : Int) < (j : Int)) = false := by simp
      have e5 : l.take j = l := List.take_of_length_le (by rw [hn.out]; exact Nat.le_refl _)
      rw [e5] at ow
      have e6 : hdAll l = Cm.put j ++ l.flatMap fun h => hdB h ++ [0] := by rw [hdAll, hn.out]
      rw [← e6] at ow
      replace e5 := Lib.hid e5
      replace e6 := Lib.hid e6
      go_wp2
      go_ret2
      exact ⟨_, rfl, ow, bw⟩
end Go.Proofs.YtjgdmpbaikhflaaDoor
