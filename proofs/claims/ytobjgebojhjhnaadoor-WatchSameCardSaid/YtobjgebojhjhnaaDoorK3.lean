import Derived.Test.YtobjgebojhjhnaaDoorK2
namespace Go.Proofs.YtobjgebojhjhnaaDoor
open Go.RowKit
set_option maxRecDepth 100000 in
set_option maxHeartbeats 8000000 in
theorem wsam_far (S : List (List UInt8 × Sl)) (As At An : Option Addr) (ns cs nt ct nn cn : Nat) (hS : S.length = ns) (hns : ns ≤ maxLen) (T : List (List UInt8)) (hT : T.length = nt) (N : List Sn) (hN : N.length = nn)
  (l : List Hd) (B : Option Addr) (m d : Nat) (hm : l.length = m) (h : Hd) (hok : h.ok) (tot : Nat) (_ : tot < 4294967296) (hs : List (List UInt8)) (_ : All32 hs) (fl : List UInt8) (Ah : Option Addr) (nh ch : Nat) (Af : Option Addr) (nf cf : Nat) (hnh : hs.length = nh) (_ : fl.length = nf)
  (w : World) (ht : Tabs w) (rS : RdBss w As S) (_ : RdHs w At T) (_ : RdSns w An N) (_ : RdHds w B l) (_ : Rd w Ah (hcl hs)) (_ : Rd w Af (fl.map bv)) (hfar : ¬ (wFew (S.map (·.1)) nt nn = true ∧ m ≤ 20 ∧ nh ≤ 60 ∧ nf ≤ 60)) :
  Calls Tryd.prog 5 #[.agg (wtc As At An ns cs nt ct nn cn).toArray, .slice B m d, .agg (blc h tot Ah nh ch Af nf cf).toArray] w fun e w' => e = .returned (.bool true) ∧ Below w.heap.size w w' := by
 by_cases hfew : wFew (S.map (·.1)) nt nn = true
 ·by_cases h20 : 20 < m
  · have t1 : decide ((20 : Int) < (m : Int)) = true := by simp; omega
    have t1' : decide (20 < m) = true := by simp; omega
    clear hfar
    have HA := fun w' t => awake21 w' t
    have HF := fun w' r => WFew S As At An ns cs nt ct nn cn hS hns w' r
    rw [hfew] at HF
    obtain ⟨W, hW⟩ : ∃ W, W = (w.alloc (.cells (wtc As At An ns cs nt ct nn cn).toArray 26)).alloc (.cells (blc h tot Ah nh ch Af nf cf).toArray 35) := ⟨_, rfl⟩
    obtain ⟨H, hH⟩ : ∃ H, H = w.heap.size := ⟨_, rfl⟩
    have aW : Av W H 26 (wtc As At An ns cs nt ct nn cn) := by rw [hW, hH]; exact heap_alloc2_old _ _ _
    have xW : Av W (H + 1) 35 (blc h tot Ah nh ch Af nf cf) := by rw [hW, hH]; exact heap_alloc2_new _ _ _
    have bW : Below w.heap.size w W := by rw [hW]; exact ((Below.refl _ _).alloc (Nat.le_refl _) _).alloc (by simp) _
    obtain ⟨d68, d69, d70⟩ := blc_at (h := h) (tot := tot) (Ah := Ah) (nh := nh) (ch := ch) (Af := Af) (nf := nf) (cf := cf) hok
    have x71 := Lib.hid (blc_length (h := h) (tot := tot) (Ah := Ah) (nh := nh) (ch := ch) (Af := Af) (nf := nf) (cf := cf) hok)
    have htW := ht.below bW
    have rSW := rS.below bW
    replace HA := Lib.hid HA
    replace HF := Lib.hid HF
    replace hW := Lib.hid hW
    replace hH := Lib.hid hH
    replace d68 := Lib.hid d68
    replace d69 := Lib.hid d69
    replace d70 := Lib.hid d70
    replace hS := Lib.hid hS
    replace hT := Lib.hid hT
    replace hN := Lib.hid hN
    replace hm := Lib.hid hm
    clear hfew
    go_enter Tryd.func5, Tryd.ntmps5
    go_upto_region 1 with fail
    rw [← hW.out, ← hH.out]
    go_upto_region 2 with (go_at_call 9; refine (HA.out W htW).mono ?_; rintro e w1 ⟨rfl, b1⟩)
    have a1 := aW.below b1
    have x1 := xW.below b1
    have rS1 := rSW.below b1
    have B1 := bW.trans (b1.mono bW.size)
    have l3 : (wtc As At An ns cs nt ct nn cn).length = 3 := rfl
    go_wp2_with (first
     | ((with_reducible refine wpList_loadF 26 a1 ?_ _ 3 l3 Tryd.underlying26 ?_ ?_ ?_); rfl; rfl; kernel_rfl)
     | (go_at_call 10; refine (HF.out w1 rS1).mono ?_; rintro e2 w2 ⟨rfl, b2⟩; have x2 := x1.below b2; have f69 := x2.cell 69 _ d69.out; have f70 := x2.cell 70 _ d70.out))
    go_ret
    exact ⟨rfl, B1.trans (b2.mono B1.size)⟩
  ·by_cases h60 : 60 < nh
   · have t1 : decide ((20 : Int) < (m : Int)) = false := by simp; omega
     have t1' : decide (20 < m) = false := by simp; omega
     have t2 : decide ((60 : Int) < (nh : Int)) = true := by simp; omega
     have t2' : decide (60 < nh) = true := by simp; omega
     clear hfar
     have HA := fun w' t => awake21 w' t
     have HF := fun w' r => WFew S As At An ns cs nt ct nn cn hS hns w' r
     rw [hfew] at HF
     obtain ⟨W, hW⟩ : ∃ W, W = (w.alloc (.cells (wtc As At An ns cs nt ct nn cn).toArray 26)).alloc (.cells (blc h tot Ah nh ch Af nf cf).toArray 35) := ⟨_, rfl⟩
     obtain ⟨H, hH⟩ : ∃ H, H = w.heap.size := ⟨_, rfl⟩
     have aW : Av W H 26 (wtc As At An ns cs nt ct nn cn) := by rw [hW, hH]; exact heap_alloc2_old _ _ _
     have xW : Av W (H + 1) 35 (blc h tot Ah nh ch Af nf cf) := by rw [hW, hH]; exact heap_alloc2_new _ _ _
     have bW : Below w.heap.size w W := by rw [hW]; exact ((Below.refl _ _).alloc (Nat.le_refl _) _).alloc (by simp) _
     obtain ⟨d68, d69, d70⟩ := blc_at (h := h) (tot := tot) (Ah := Ah) (nh := nh) (ch := ch) (Af := Af) (nf := nf) (cf := cf) hok
     have x71 := Lib.hid (blc_length (h := h) (tot := tot) (Ah := Ah) (nh := nh) (ch := ch) (Af := Af) (nf := nf) (cf := cf) hok)
     have htW := ht.below bW
     have rSW := rS.below bW
     replace HA := Lib.hid HA
     replace HF := Lib.hid HF
     replace hW := Lib.hid hW
     replace hH := Lib.hid hH
     replace d68 := Lib.hid d68
     replace d69 := Lib.hid d69
     replace d70 := Lib.hid d70
     replace hS := Lib.hid hS
     replace hT := Lib.hid hT
     replace hN := Lib.hid hN
     replace hm := Lib.hid hm
     clear hfew
     go_enter Tryd.func5, Tryd.ntmps5
     go_upto_region 1 with fail
     rw [← hW.out, ← hH.out]
     go_upto_region 2 with (go_at_call 9; refine (HA.out W htW).mono ?_; rintro e w1 ⟨rfl, b1⟩)
     have a1 := aW.below b1
     have x1 := xW.below b1
     have rS1 := rSW.below b1
     have B1 := bW.trans (b1.mono bW.size)
     have l3 : (wtc As At An ns cs nt ct nn cn).length = 3 := rfl
     go_wp2_with (first
      | ((with_reducible refine wpList_loadF 26 a1 ?_ _ 3 l3 Tryd.underlying26 ?_ ?_ ?_); rfl; rfl; kernel_rfl)
      | (go_at_call 10; refine (HF.out w1 rS1).mono ?_; rintro e2 w2 ⟨rfl, b2⟩; have x2 := x1.below b2; have f69 := x2.cell 69 _ d69.out; have f70 := x2.cell 70 _ d70.out))
     go_ret
     exact ⟨rfl, B1.trans (b2.mono B1.size)⟩
   ·have h6f : 60 < nf := by
     rcases Nat.lt_or_ge 60 nf with q | q
     ·exact q
     ·exact absurd ⟨hfew, by omega, by omega, q⟩ hfar
    have t1 : decide ((20 : Int) < (m : Int)) = false := by simp; omega
    have t1' : decide (20 < m) = false := by simp; omega
    have t2 : decide ((60 : Int) < (nh : Int)) = false := by simp; omega
    have t2' : decide (60 < nh) = false := by simp; omega
    have t3 : decide ((60 : Int) < (nf : Int)) = true := by simp; omega
    have t3' : decide (60 < nf) = true := by simp; omega
    clear hfar
    have HA := fun w' t => awake21 w' t
    have HF := fun w' r => WFew S As At An ns cs nt ct nn cn hS hns w' r
    rw [hfew] at HF
    obtain ⟨W, hW⟩ : ∃ W, W = (w.alloc (.cells (wtc As At An ns cs nt ct nn cn).toArray 26)).alloc (.cells (blc h tot Ah nh ch Af nf cf).toArray 35) := ⟨_, rfl⟩
    obtain ⟨H, hH⟩ : ∃ H, H = w.heap.size := ⟨_, rfl⟩
    have aW : Av W H 26 (wtc As At An ns cs nt ct nn cn) := by rw [hW, hH]; exact heap_alloc2_old _ _ _
    have xW : Av W (H + 1) 35 (blc h tot Ah nh ch Af nf cf) := by rw [hW, hH]; exact heap_alloc2_new _ _ _
    have bW : Below w.heap.size w W := by rw [hW]; exact ((Below.refl _ _).alloc (Nat.le_refl _) _).alloc (by simp) _
    obtain ⟨d68, d69, d70⟩ := blc_at (h := h) (tot := tot) (Ah := Ah) (nh := nh) (ch := ch) (Af := Af) (nf := nf) (cf := cf) hok
    have x71 := Lib.hid (blc_length (h := h) (tot := tot) (Ah := Ah) (nh := nh) (ch := ch) (Af := Af) (nf := nf) (cf := cf) hok)
    have htW := ht.below bW
    have rSW := rS.below bW
    replace HA := Lib.hid HA
    replace HF := Lib.hid HF
    replace hW := Lib.hid hW
    replace hH := Lib.hid hH
    replace d68 := Lib.hid d68
    replace d69 := Lib.hid d69
    replace d70 := Lib.hid d70
    replace hS := Lib.hid hS
    replace hT := Lib.hid hT
    replace hN := Lib.hid hN
    replace hm := Lib.hid hm
    clear hfew
    go_enter Tryd.func5, Tryd.ntmps5
    go_upto_region 1 with fail
    rw [← hW.out, ← hH.out]
    go_upto_region 2 with (go_at_call 9; refine (HA.out W htW).mono ?_; rintro e w1 ⟨rfl, b1⟩)
    have a1 := aW.below b1
    have x1 := xW.below b1
    have rS1 := rSW.below b1
    have B1 := bW.trans (b1.mono bW.size)
    have l3 : (wtc As At An ns cs nt ct nn cn).length = 3 := rfl
    go_wp2_with (first
     | ((with_reducible refine wpList_loadF 26 a1 ?_ _ 3 l3 Tryd.underlying26 ?_ ?_ ?_); rfl; rfl; kernel_rfl)
     | (go_at_call 10; refine (HF.out w1 rS1).mono ?_; rintro e2 w2 ⟨rfl, b2⟩; have x2 := x1.below b2; have f69 := x2.cell 69 _ d69.out; have f70 := x2.cell 70 _ d70.out))
    go_ret
    exact ⟨rfl, B1.trans (b2.mono B1.size)⟩
 ·rw [Bool.not_eq_true] at hfew
  clear hfar
  have HA := fun w' t => awake21 w' t
  have HF := fun w' r => WFew S As At An ns cs nt ct nn cn hS hns w' r
  rw [hfew] at HF
  obtain ⟨W, hW⟩ : ∃ W, W = (w.alloc (.cells (wtc As At An ns cs nt ct nn cn).toArray 26)).alloc (.cells (blc h tot Ah nh ch Af nf cf).toArray 35) := ⟨_, rfl⟩
  obtain ⟨H, hH⟩ : ∃ H, H = w.heap.size := ⟨_, rfl⟩
  have aW : Av W H 26 (wtc As At An ns cs nt ct nn cn) := by rw [hW, hH]; exact heap_alloc2_old _ _ _
  have xW : Av W (H + 1) 35 (blc h tot Ah nh ch Af nf cf) := by rw [hW, hH]; exact heap_alloc2_new _ _ _
  have bW : Below w.heap.size w W := by rw [hW]; exact ((Below.refl _ _).alloc (Nat.le_refl _) _).alloc (by simp) _
  obtain ⟨d68, d69, d70⟩ := blc_at (h := h) (tot := tot) (Ah := Ah) (nh := nh) (ch := ch) (Af := Af) (nf := nf) (cf := cf) hok
  have x71 := Lib.hid (blc_length (h := h) (tot := tot) (Ah := Ah) (nh := nh) (ch := ch) (Af := Af) (nf := nf) (cf := cf) hok)
  have htW := ht.below bW
  have rSW := rS.below bW
  replace HA := Lib.hid HA
  replace HF := Lib.hid HF
  replace hW := Lib.hid hW
  replace hH := Lib.hid hH
  replace d68 := Lib.hid d68
  replace d69 := Lib.hid d69
  replace d70 := Lib.hid d70
  replace hS := Lib.hid hS
  replace hT := Lib.hid hT
  replace hN := Lib.hid hN
  replace hm := Lib.hid hm
  clear hfew
  go_enter Tryd.func5, Tryd.ntmps5
  go_upto_region 1 with fail
  rw [← hW.out, ← hH.out]
  go_upto_region 2 with (go_at_call 9; refine (HA.out W htW).mono ?_; rintro e w1 ⟨rfl, b1⟩)
  have a1 := aW.below b1
  have x1 := xW.below b1
  have rS1 := rSW.below b1
  have B1 := bW.trans (b1.mono bW.size)
  have l3 : (wtc As At An ns cs nt ct nn cn).length = 3 := rfl
  go_wp2_with (first
   | ((with_reducible refine wpList_loadF 26 a1 ?_ _ 3 l3 Tryd.underlying26 ?_ ?_ ?_); rfl; rfl; kernel_rfl)
   | (go_at_call 10; refine (HF.out w1 rS1).mono ?_; rintro e2 w2 ⟨rfl, b2⟩; have x2 := x1.below b2; have f69 := x2.cell 69 _ d69.out; have f70 := x2.cell 70 _ d70.out))
  go_ret
  exact ⟨rfl, B1.trans (b2.mono B1.size)⟩
set_option maxRecDepth 100000 in
set_option maxHeartbeats 16000000 in
theorem wsam_main (S : List (List UInt8 × Sl)) (As At An : Option Addr) (ns cs nt ct nn cn : Nat) (hS : S.length = ns) (hns : ns ≤ maxLen) (T : List (List UInt8)) (hT : T.length = nt) (N : List Sn) (hN : N.length = nn)
  (l : List Hd) (B : Option Addr) (m d : Nat) (hm : l.length = m) (h : Hd) (hok : h.ok) (tot : Nat) (htot : tot < 4294967296) (hs : List (List UInt8)) (h32 : All32 hs) (fl : List UInt8) (Ah : Option Addr) (nh ch : Nat) (Af : Option Addr) (nf cf : Nat) (hnh : hs.length = nh) (hnf : fl.length = nf)
  (w : World) (ht : Tabs w) (rS : RdBss w As S) (rT : RdHs w At T) (rN : RdSns w An N) (rl : RdHds w B l) (rh : Rd w Ah (hcl hs)) (rf : Rd w Af (fl.map bv)) (hfew : wFew (S.map (·.1)) nt nn = true) (hm20 : m ≤ 20) (hnh60 : nh ≤ 60) (hnf60 : nf ≤ 60) :
  Calls Tryd.prog 5 #[.agg (wtc As At An ns cs nt ct nn cn).toArray, .slice B m d, .agg (blc h tot Ah nh ch Af nf cf).toArray] w fun e w' => e = .returned (.bool true) ∧ Below w.heap.size w w' := by
 obtain ⟨_, hns3, hnt60, hnn60⟩ := wFew_iff.1 hfew
 have hns300 : ns ≤ 300 := by rw [← hS]; simpa using hns3
 clear hns3
 have t1 : decide ((20 : Int) < (m : Int)) = false := by simp; omega
 have t2 : decide ((60 : Int) < (nh : Int)) = false := by simp; omega
 have t3 : decide ((60 : Int) < (nf : Int)) = false := by simp; omega
 have HPl := fun w' t r => Plainly l B m d hm (by omega) w' t r
 obtain ⟨ds, hds⟩ : ∃ ds, ds = mAll 60 l := ⟨_, rfl⟩
 rw [← hds] at HPl
 have HE := fun w' r => Eye As At An ns cs nt ct nn cn N hN (by omega) w' r
 have HB := fun w' => BlockL h hok tot Ah nh ch Af nf cf w'
 obtain ⟨L, k, e, hpr⟩ : ∃ L k e, wProve ds T N h tot hs fl = (L, k, e) := ⟨_, _, _, rfl⟩
 have HA := fun w' t => awake21 w' t
 have HF := fun w' r => WFew S As At An ns cs nt ct nn cn hS hns w' r
 rw [hfew] at HF
 obtain ⟨W, hW⟩ : ∃ W, W = (w.alloc (.cells (wtc As At An ns cs nt ct nn cn).toArray 26)).alloc (.cells (blc h tot Ah nh ch Af nf cf).toArray 35) := ⟨_, rfl⟩
 obtain ⟨H, hH⟩ : ∃ H, H = w.heap.size := ⟨_, rfl⟩
 have aW : Av W H 26 (wtc As At An ns cs nt ct nn cn) := by rw [hW, hH]; exact heap_alloc2_old _ _ _
 have xW : Av W (H + 1) 35 (blc h tot Ah nh ch Af nf cf) := by rw [hW, hH]; exact heap_alloc2_new _ _ _
 have bW : Below w.heap.size w W := by rw [hW]; exact ((Below.refl _ _).alloc (Nat.le_refl _) _).alloc (by simp) _
 obtain ⟨d68, d69, d70⟩ := blc_at (h := h) (tot := tot) (Ah := Ah) (nh := nh) (ch := ch) (Af := Af) (nf := nf) (cf := cf) hok
 have x71 := Lib.hid (blc_length (h := h) (tot := tot) (Ah := Ah) (nh := nh) (ch := ch) (Af := Af) (nf := nf) (cf := cf) hok)
 have htW := ht.below bW
 have rSW := rS.below bW
 replace HA := Lib.hid HA
 replace HF := Lib.hid HF
 replace hW := Lib.hid hW
 replace hH := Lib.hid hH
 replace d68 := Lib.hid d68
 replace d69 := Lib.hid d69
 replace d70 := Lib.hid d70
 replace hS := Lib.hid hS
 replace hT := Lib.hid hT
 replace hN := Lib.hid hN
 replace hm := Lib.hid hm
 replace hfew := Lib.hid hfew
 replace HPl := Lib.hid HPl
 replace HE := Lib.hid HE
 replace HB := Lib.hid HB
 replace hpr := Lib.hid hpr
 replace hds := Lib.hid hds
 go_enter Tryd.func5, Tryd.ntmps5
 go_upto_region 1 with fail
 rw [← hW.out, ← hH.out]
 go_upto_region 2 with (go_at_call 9; refine (HA.out W htW).mono ?_; rintro e w1 ⟨rfl, b1⟩)
 have a1 := aW.below b1
 have x1 := xW.below b1
 have rS1 := rSW.below b1
 have B1 := bW.trans (b1.mono bW.size)
 have l3 : (wtc As At An ns cs nt ct nn cn).length = 3 := rfl
 have e69 := Lib.hid d69.out
 go_upto_region 4 with (first
  | ((with_reducible refine wpList_loadF 26 a1 ?_ _ 3 l3 Tryd.underlying26 ?_ ?_ ?_); rfl; rfl; kernel_rfl)
  | (go_at_call 10; refine (HF.out w1 rS1).mono ?_; rintro e2 w2 ⟨rfl, b2⟩; have x2 := x1.below b2; have f69 := x2.cell 69 _ d69.out; have f70 := x2.cell 70 _ d70.out))
 have B2 := B1.trans (b2.mono B1.size)
 have t2' := ht.below B2
 have rl2 := rl.below B2
 clear f69 f70
 go_upto_region 5 with (go_at_call 11; refine (HPl.out w2 t2' rl2).mono ?_; rintro e2 wr ⟨vt, rfl, hvR, b3⟩)
 have BR := B2.trans (b3.mono B2.size)
 have aR := (a1.below b2).below b3
 have xR := x2.below b3
 have htR := ht.below BR
 have rNR := rN.below BR
 have rTR := rT.below BR
 have rhR := rh.below BR
 have rfR := rf.below BR
 have HP := fun A' c' w' t hv rT rN rh rf => WProve As At A' ns cs nt ct nn c' T hT.out (by omega) N hN.out (by omega) vt ds h hok tot htot hs h32 fl Ah nh ch Af nf cf hnh hnf (by omega) (by omega) w' t hv rT rN rh rf
 rw [hpr.out] at HP
 dsimp only at HP
 replace HP := Lib.hid HP
 refine wp_region_relL [(8, 11), (9, 11), (9, 12)] 11 [(1, EyeW As At ns cs nt ct nn N), (5, PrvW As At ns cs nt ct L k e), (6, PrvW As At ns cs nt ct L k e), (7, WtW As At ns cs nt ct L), (10, AlcW wr.heap.size)] Ext (by kernel_rfl) (by simp only [lates, late, List.push_toArray, List.cons_append, List.nil_append]; rfl) (by kernel_rfl) (fun _ _ _ _ _ h => h) (by kernel_rfl) (by kernel_rfl) (by kernel_rfl) (by kernel_rfl) Ext.refl Ext.trans (by intro p hp v w w' hR; simp only [List.mem_cons, List.not_mem_nil, or_false] at hp; rcases hp with rfl | rfl | rfl | rfl | rfl; exact EyeW.mono hR; exact PrvW.mono hR; exact PrvW.mono hR; exact WtW.mono hR; exact AlcW.mono hR) ?_
 refine ZP (c := .agg (wtc As At An ns cs nt ct nn cn).toArray) (fun w hw => exec_loadAv (aR.below hw.drew) _ _ rfl rfl _ 3 rfl Tryd.underlying26 rfl (by kernel_rfl)) ?_
 refine relWord _ rfl (fun w hw => fill_none rfl (relOp_yes rfl (relRes_enterW 13 #[.agg (wtc As At An ns cs nt ct nn cn).toArray] (by go_simp) ((HE.out w (rNR.below hw.drew)).mono ?_)))) ?_
 ·rintro e w' ⟨A', c', rfl, r', b'⟩
  exact ⟨_, rfl, b', A', c', rfl, r'⟩
 refine ZM ?_
 refine ZP (c := .agg (blc h tot Ah nh ch Af nf cf).toArray) (fun w hw => exec_loadAv (xR.below hw.drew) _ _ rfl rfl _ 71 x71.out Tryd.underlying35 rfl (by kernel_rfl)) ?_
 refine ZC (c := .agg (blc h tot Ah nh ch Af nf cf).toArray) 14 #[.agg (blc h tot Ah nh ch Af nf cf).toArray] (fun w hw => (HB.out w).mono ?_) ?_
 ·rintro e w' ⟨rfl, b⟩
  exact ⟨rfl, b⟩
 refine relWord _ rfl (fun w hw => fill_take rfl rfl fun v hv => fill_none rfl (relOp_yes rfl ?_)) ?_
 ·obtain ⟨A', c', rfl, r'⟩ := hv
  refine relRes_enterW 12 #[.agg (wtc As At A' ns cs nt ct nn c').toArray, vt, .agg (blc h tot Ah nh ch Af nf cf).toArray] (by go_simp) ((HP.out A' c' w (htR.below hw.drew) (hvR.below hw.drew) (rTR.below hw.drew) r' (rhR.below hw.drew) (rfR.below hw.drew)).mono ?_)
  rintro e w' ⟨A2, n2, c2, rfl, hl2, r2, b2⟩
  exact ⟨_, rfl, b2, A2, n2, c2, rfl, hl2, r2⟩
 refine relWord _ rfl (fun w hw => fill_skip rfl (fill_take rfl rfl fun v hv => fill_none rfl (relOp_yes rfl ?_))) ?_
 ·exact ⟨Ext.refl _, hv⟩
 refine relWord _ rfl (fun w hw => fill_skip rfl (fill_skip rfl (fill_take rfl rfl fun v hv => fill_none rfl (relOp_yes rfl ?_)))) ?_
 ·obtain ⟨A2, n2, c2, rfl, hl2, r2⟩ := hv
  exact ⟨Ext.refl _, A2, n2, c2, rfl, hl2, r2⟩
 refine relOn rfl rfl (c := .int .i64 (k : Int)) (fun w hw => fill_skip rfl (fill_skip rfl (fill_take rfl rfl fun v hv => fill_none rfl (relOp_yes rfl ?_)))) (by simp only [Zs]; rfl) ?_
 ·obtain ⟨A2, n2, c2, rfl, hl2, r2⟩ := hv
  exact ⟨Ext.refl _, rfl⟩
 refine relOn rfl rfl (c := .int .i64 (e : Int)) (fun w hw => fill_skip rfl (fill_skip rfl (fill_take rfl rfl fun v hv => fill_none rfl (relOp_yes rfl ?_)))) (by simp only [Zs]; rfl) ?_
 ·obtain ⟨A2, n2, c2, rfl, hl2, r2⟩ := hv
  exact ⟨Ext.refl _, rfl⟩
 refine relWord _ rfl (fun w hw => fill_none rfl (relOp_yes rfl ?_)) ?_
 ·exact ⟨(Below.refl _ _).alloc (Nat.le_refl _) _, w.heap.size, rfl, hw.drew.size, heap_alloc_new _ _⟩
 refine relEnd fun w6 hw6 => fill_take rfl rfl fun v1 hv1 => fill_take rfl rfl fun v2 hv2 => fill_take rfl rfl fun v3 hv3 => fill_take rfl rfl fun v4 hv4 => fill_take rfl rfl fun v5 hv5 => fill_end ?_
 obtain ⟨A4, n4, c4, rfl, hl4, r4⟩ := hv4
 obtain ⟨G9, rfl, hG9, z9⟩ := hv5
 clear hv1 hv2 hv3
 simp only [List.set_cons_succ, List.set_cons_zero, List.drop_succ_cons, List.drop_zero]
 have b6 : Below wr.heap.size wr w6 := hw6.drew
 have wone := wtc_one As At A4 ns cs nt ct n4 c4
 have l4' : (wtc As At A4 ns cs nt ct n4 c4).length = 3 := rfl
 go_upto_region 6 with ((with_reducible refine wpList_storeFA 42 b6 z9 hG9 (wtc As At A4 ns cs nt ct n4 c4) ?_ ?_ 3 l4' ?_ ?_ ?_ ?_); rfl; rfl; kernel_rfl; rfl; exact wone; intro w7 a7 b7 k7 z7)
 have f7 : Fr (fun k => k = G9) w6 w7 := ⟨b7.os.trans b6.os.symm, b7.tape.trans b6.tape.symm, b7.output.trans b6.output.symm, by rw [z7]; exact Nat.le_refl _, fun k _ hk => k7 k hk⟩
 have r7 := r4.off z9 f7
 have B7 := BR.trans (b7.mono BR.size)
 have aL := aR.below b7
 have xL := xR.below b7
 have ht7 := htR.below b7
 have hv7 := hvR.below b7
 have rh7 := rhR.below b7
 have rf7 := rfR.below b7
 have T7 := rTR.below b7
 clear b6 f7 k7 z7 r4 z9
 obtain ⟨D, hL, hDk, hK0, _⟩ := wProve_came hpr.out
 have hn4 : n4 = nn + k := by have := congrArg List.length hL; rw [List.length_append, hDk, hl4, hN.out] at this; exact this
 have hk60 : k ≤ 60 := by have := wProve_len h32 hpr.out; omega
 have hn120 : n4 ≤ 120 := by omega
 have hLN : e ≠ 0 → L = N := fun he => by
  have h0 := hK0 he
  rw [h0] at hDk
  rw [hL, List.eq_nil_of_length_eq_zero hDk, List.append_nil]
 have HP2 := fun w' t hv rT rN rh rf => WProve As At A4 ns cs nt ct n4 c4 T hT.out (by omega) L hl4 (by omega) vt ds h hok tot htot hs h32 fl Ah nh ch Af nf cf hnh hnf (by omega) (by omega) w' t hv rT rN rh rf
 rw [wProve_again hpr.out] at HP2
 dsimp only at HP2
 replace HP2 := Lib.hid HP2
 replace hL := Lib.hid hL
 replace hDk := Lib.hid hDk
 replace hn4 := Lib.hid hn4
 replace hl4 := Lib.hid hl4
 replace hLN := Lib.hid hLN
 refine wp_region_relL [(7, 10), (8, 10), (8, 11)] 10 [(4, PrvW As At ns cs nt ct L 0 e), (5, PrvW As At ns cs nt ct L 0 e), (6, WtW As At ns cs nt ct L), (9, AlcW w7.heap.size)] Ext (by kernel_rfl) (by simp only [lates, late, List.push_toArray, List.cons_append, List.nil_append]; rfl) (by kernel_rfl) (fun _ _ _ _ _ h => h) (by kernel_rfl) (by kernel_rfl) (by kernel_rfl) (by kernel_rfl) Ext.refl Ext.trans (by intro p hp v w w' hR; simp only [List.mem_cons, List.not_mem_nil, or_false] at hp; rcases hp with rfl | rfl | rfl | rfl; exact PrvW.mono hR; exact PrvW.mono hR; exact WtW.mono hR; exact AlcW.mono hR) ?_
 refine ZP (c := .agg (wtc As At A4 ns cs nt ct n4 c4).toArray) (fun w hw => exec_loadAv (a7.below hw.drew) _ _ rfl rfl _ 3 rfl Tryd.underlying42 rfl (by kernel_rfl)) ?_
 refine ZM ?_
 refine ZP (c := .agg (blc h tot Ah nh ch Af nf cf).toArray) (fun w hw => exec_loadAv (xL.below hw.drew) _ _ rfl rfl _ 71 x71.out Tryd.underlying35 rfl (by kernel_rfl)) ?_
 refine ZC (c := .agg (blc h tot Ah nh ch Af nf cf).toArray) 14 #[.agg (blc h tot Ah nh ch Af nf cf).toArray] (fun w hw => (HB.out w).mono ?_) ?_
 ·rintro e w' ⟨rfl, b⟩
  exact ⟨rfl, b⟩
 refine relWord _ rfl (fun w hw => fill_none rfl (relOp_yes rfl (relRes_enterW 12 #[.agg (wtc As At A4 ns cs nt ct n4 c4).toArray, vt, .agg (blc h tot Ah nh ch Af nf cf).toArray] (by go_simp) ((HP2.out w (ht7.below hw.drew) (hv7.below hw.drew) (T7.below hw.drew) (r7.below hw.drew) (rh7.below hw.drew) (rf7.below hw.drew)).mono ?_)))) ?_
 ·rintro e w' ⟨A2, n2, c2, rfl, hl2, r2, b2⟩
  exact ⟨_, rfl, b2, A2, n2, c2, rfl, hl2, r2⟩
 refine relWord _ rfl (fun w hw => fill_take rfl rfl fun v hv => fill_none rfl (relOp_yes rfl ?_)) ?_
 ·exact ⟨Ext.refl _, hv⟩
 refine relWord _ rfl (fun w hw => fill_skip rfl (fill_take rfl rfl fun v hv => fill_none rfl (relOp_yes rfl ?_))) ?_
 ·obtain ⟨A2, n2, c2, rfl, hl2, r2⟩ := hv
  exact ⟨Ext.refl _, A2, n2, c2, rfl, hl2, r2⟩
 refine relOn rfl rfl (c := .int .i64 ((0 : Nat) : Int)) (fun w hw => fill_skip rfl (fill_take rfl rfl fun v hv => fill_none rfl (relOp_yes rfl ?_))) (by simp only [Zs]; rfl) ?_
 ·obtain ⟨A2, n2, c2, rfl, hl2, r2⟩ := hv
  exact ⟨Ext.refl _, rfl⟩
 refine relOn rfl rfl (c := .int .i64 (e : Int)) (fun w hw => fill_skip rfl (fill_take rfl rfl fun v hv => fill_none rfl (relOp_yes rfl ?_))) (by simp only [Zs]; rfl) ?_
 ·obtain ⟨A2, n2, c2, rfl, hl2, r2⟩ := hv
  exact ⟨Ext.refl _, rfl⟩
 refine relWord _ rfl (fun w hw => fill_none rfl (relOp_yes rfl ?_)) ?_
 ·exact ⟨(Below.refl _ _).alloc (Nat.le_refl _) _, w.heap.size, rfl, hw.drew.size, heap_alloc_new _ _⟩
 refine relEnd fun w8 hw8 => fill_take rfl rfl fun v1 hv1 => fill_take rfl rfl fun v2 hv2 => fill_take rfl rfl fun v3 hv3 => fill_take rfl rfl fun v4 hv4 => fill_end ?_
 obtain ⟨A5, n5, c5, rfl, hl5, r5⟩ := hv3
 obtain rfl : n4 = n5 := by rw [← hl5, hl4.out]
 obtain ⟨G10, rfl, hG10, z10⟩ := hv4
 clear hv1 hv2
 simp only [List.set_cons_succ, List.set_cons_zero, List.drop_succ_cons, List.drop_zero]
 have b8 : Below w7.heap.size w7 w8 := hw8.drew
 have wone2 := wtc_one As At A5 ns cs nt ct n4 c5
 have l5' : (wtc As At A5 ns cs nt ct n4 c5).length = 3 := rfl
 go_upto_region 7 with ((with_reducible refine wpList_storeFA 42 b8 z10 hG10 (wtc As At A5 ns cs nt ct n4 c5) ?_ ?_ 3 l5' ?_ ?_ ?_ ?_); rfl; rfl; kernel_rfl; rfl; exact wone2; intro w9 u9 b9 k9 z9)
 have f9 : Fr (fun k => k = G10) w8 w9 := ⟨b9.os.trans b8.os.symm, b9.tape.trans b8.tape.symm, b9.output.trans b8.output.symm, by rw [z9]; exact Nat.le_refl _, fun k _ hk => k9 k hk⟩
 have s9 := r5.off z10 f9
 have B9 := B7.trans (b9.mono B7.size)
 have a9 := aL.below b9
 have x9 := xL.below b9
 have q9 := a7.below b9
 have r9 := r7.below b9
 have t9 := ht7.below b9
 have v9 := hv7.below b9
 replace hl5 := Lib.hid hl5
 clear b8 f9 k9 z9 r5 z10
 obtain ⟨I, hI⟩ : ∃ I, I = hdId h := ⟨_, rfl⟩
 have I32 : I.length = 32 := by rw [hI]; exact hdId_length h
 have HI := fun w' t => HdId h hok w' t
 have HFn := fun w' r => TFind vt ds I I32 w' r
 rw [← hI] at HI
 have rhd : w9.rangeAt (H + 1) 0 (hdc h) := blc_head x9
 have h68 := Lib.hid (hdc_length hok)
 obtain ⟨fo, hfo⟩ : ∃ fo, fo = tFind ds I := ⟨_, rfl⟩
 rw [← hfo] at HFn
 replace HI := Lib.hid HI
 replace HFn := Lib.hid HFn
 replace hfo := Lib.hid hfo
 replace hI := Lib.hid hI
 replace I32 := Lib.hid I32
 go_upto_region 8 with (first
  | ((with_reducible refine wpList_loadMF 32 (hdc h) rhd ?_ _ Tryd.underlying32 ?_ ?_ ?_); rfl; rfl; (rw [h68.out]; kernel_rfl))
  | (go_at_call 17; refine (HI.out w9 t9).mono ?_; rintro e10 w10 ⟨rfl, b10⟩)
  | (go_at_call 16; refine (HFn.out w10 (v9.below b10)).mono ?_; rintro e11 w12 ⟨rfl, b11⟩))
 have b912 := b10.trans (b11.mono b10.size)
 have B12 := B9.trans (b912.mono B9.size)
 have a12 := a9.below b912
 have q12 := q9.below b912
 have u12 := u9.below b912
 have r12 := r9.below b912
 have s12 := s9.below b912
 have T12 := rT.below B12
 have N12 := rN.below B12
 have S12 := rS.below B12
 have HS4 := fun w' r => SeenL As At A4 ns cs nt ct n4 c4 L hl4.out (by omega) w' r
 have HS5 := fun w' r => SeenL As At A5 ns cs nt ct n4 c5 L hl4.out (by omega) w' r
 have HSm := fun (X Y : Option Addr) (x y : Nat) (w' : World) (rs : RdBss w' As S) (t : RdHs w' At T) (r1 : RdSns w' X L) (r2 : RdSns w' Y L) => RSame S S rfl T L As At X As At Y ns cs cs nt ct ct n4 x y hS.out (by omega) hT.out (by omega) hl4.out (by omega) w' rs rs t t r1 r2
 have hcode := wProve_code hpr.out
 have horp := wProve_orph hpr.out
 rw [← hI.out, ← hfo.out] at hcode horp
 obtain ⟨fb, hfb⟩ : ∃ fb, fb = fo.isSome := ⟨_, rfl⟩
 rw [← hfb] at hcode horp ⊢
 replace HS4 := Lib.hid HS4
 replace HS5 := Lib.hid HS5
 replace HSm := Lib.hid HSm
 replace hfb := Lib.hid hfb
 clear a9 q9 u9 r9 s9 t9 v9 x9 rhd HI HFn HP HP2 HE HB HF HA HPl
 rcases Nat.eq_zero_or_pos e with he | he
 ·subst he
  obtain rfl : fb = true := by
   have := hcode.symm
   simp at this
   exact this.1
  clear hcode horp
  replace hK0 := Lib.hid hK0
  refine wp_region_rel [(12, EyeW As At ns cs nt ct n4 L), (14, EyeW As At ns cs nt ct n4 L)] Ext (by kernel_rfl) (by kernel_rfl) (by kernel_rfl) Ext.refl Ext.trans (by intro p hp v w w' hR; simp only [List.mem_cons, List.not_mem_nil, or_false] at hp; rcases hp with rfl | rfl <;> exact EyeW.mono hR) ?_
  refine ZM ?_
  refine ZM ?_
  refine ZM ?_
  refine ZM ?_
  refine ZP (c := .bool true) (fun w _ => by go_simp; first | done | rfl) ?_
  refine ZK ?_
  refine ZM ?_
  refine ZM ?_
  refine ZP (c := .bool true) (fun w _ => by go_simp; first | done | rfl) ?_
  refine ZK ?_
  refine ZM ?_
  refine ZP (c := .agg (wtc As At A5 ns cs nt ct n4 c5).toArray) (fun w hw => exec_loadAv (u12.below hw.drew) _ _ rfl rfl _ 3 rfl Tryd.underlying42 rfl (by kernel_rfl)) ?_
  refine relWord _ rfl (fun w hw => fill_none rfl (relOp_yes rfl (relRes_enterW 25 #[.agg (wtc As At A5 ns cs nt ct n4 c5).toArray] (by go_simp) ((HS5.out w (s12.below hw.drew)).mono ?_)))) ?_
  ·rintro e w' ⟨A', c', rfl, r', b'⟩
   exact ⟨_, rfl, b', A', c', rfl, r'⟩
  refine ZP (c := .agg (wtc As At A4 ns cs nt ct n4 c4).toArray) (fun w hw => exec_loadAv (q12.below hw.drew) _ _ rfl rfl _ 3 rfl Tryd.underlying42 rfl (by kernel_rfl)) ?_
  refine relWord _ rfl (fun w hw => fill_none rfl (relOp_yes rfl (relRes_enterW 25 #[.agg (wtc As At A4 ns cs nt ct n4 c4).toArray] (by go_simp) ((HS4.out w (r12.below hw.drew)).mono ?_)))) ?_
  ·rintro e w' ⟨A', c', rfl, r', b'⟩
   exact ⟨_, rfl, b', A', c', rfl, r'⟩
  refine relOn rfl rfl (c := .bool true) (fun w hw => fill_take rfl rfl fun u hu => fill_take rfl rfl fun v hv' => fill_end ?_) (by simp only [Zs]; rfl) ?_
  ·obtain ⟨B1, d1, rfl, x1⟩ := hu
   obtain ⟨B2, d2, rfl, x2⟩ := hv'
   simp only [List.set_cons_succ, List.set_cons_zero]
   refine relOp_yes rfl (relRes_enterW 24 #[.agg (wtc As At B1 ns cs nt ct n4 d1).toArray, .agg (wtc As At B2 ns cs nt ct n4 d2).toArray] (by go_simp) ?_)
   exact (HSm.out B1 B2 d1 d2 w (S12.below hw.drew) (T12.below hw.drew) x1 x2).mono fun _ _ h => ⟨_, h.1, h.2, rfl⟩
  refine ZK ?_
  refine ZM ?_
  refine ZM ?_
  refine ZP (c := .bool true) (fun w _ => by go_simp; first | done | rfl) ?_
  refine ZM ?_
  refine ZS ?_
  refine ZS ?_
  refine ZS ?_
  refine relSkipU rfl rfl (by kernel_rfl) rfl (by simp only [Zs]; rfl) ?_
  refine relSkipU rfl rfl (by kernel_rfl) rfl (by simp only [Zs]; rfl) ?_
  refine relSkipU rfl rfl (by kernel_rfl) rfl (by simp only [Zs]; rfl) ?_
  refine relSkipU rfl rfl (by kernel_rfl) rfl (by simp only [Zs]; rfl) ?_
  refine ZS ?_
  refine ZK ?_
  refine ZK ?_
  refine ZM ?_
  refine ZM ?_
  refine ZM ?_
  refine ZS ?_
  refine ZS ?_
  refine ZK ?_
  refine ZK ?_
  refine ZM ?_
  refine relEnd fun w13 hw13 => fill_take rfl rfl fun v1 hv1 => fill_take rfl rfl fun v2 hv2 => fill_end ?_
  simp only [List.set_cons_succ, List.set_cons_zero]
  go_wp2
  go_ret
  exact ⟨rfl, B12.trans (hw13.drew.mono B12.size)⟩
 ·have e1 : ((e : Int) == 0) = false := by simp; omega
  have hl := hLN.out (by omega)
  have hk0 : k = 0 := hK0 (by omega)
  subst hk0
  obtain rfl : nn = n4 := by have := hn4.out; omega
  rw [← hl] at N12
  clear hcode hl
  replace hK0 := Lib.hid hK0
  cases fb
  ·obtain rfl : e = 9 := horp rfl
   clear horp
   refine wp_region_rel [(12, EyeW As At ns cs nt ct nn L), (14, EyeW As At ns cs nt ct nn L), (25, EyeW As At ns cs nt ct nn L)] Ext (by kernel_rfl) (by kernel_rfl) (by kernel_rfl) Ext.refl Ext.trans (by intro p hp v w w' hR; simp only [List.mem_cons, List.not_mem_nil, or_false] at hp; rcases hp with rfl | rfl | rfl <;> exact EyeW.mono hR) ?_
   refine ZM ?_
   refine ZM ?_
   refine ZM ?_
   refine ZM ?_
   refine ZP (c := .bool true) (fun w _ => by go_simp; first | done | rfl) ?_
   refine ZK ?_
   refine ZM ?_
   refine ZM ?_
   refine ZP (c := .bool true) (fun w _ => by go_simp; first | done | rfl) ?_
   refine ZK ?_
   refine ZM ?_
   refine ZP (c := .agg (wtc As At A5 ns cs nt ct nn c5).toArray) (fun w hw => exec_loadAv (u12.below hw.drew) _ _ rfl rfl _ 3 rfl Tryd.underlying42 rfl (by kernel_rfl)) ?_
   refine relWord _ rfl (fun w hw => fill_none rfl (relOp_yes rfl (relRes_enterW 25 #[.agg (wtc As At A5 ns cs nt ct nn c5).toArray] (by go_simp) ((HS5.out w (s12.below hw.drew)).mono ?_)))) ?_
   ·rintro e w' ⟨A', c', rfl, r', b'⟩
    exact ⟨_, rfl, b', A', c', rfl, r'⟩
   refine ZP (c := .agg (wtc As At A4 ns cs nt ct nn c4).toArray) (fun w hw => exec_loadAv (q12.below hw.drew) _ _ rfl rfl _ 3 rfl Tryd.underlying42 rfl (by kernel_rfl)) ?_
   refine relWord _ rfl (fun w hw => fill_none rfl (relOp_yes rfl (relRes_enterW 25 #[.agg (wtc As At A4 ns cs nt ct nn c4).toArray] (by go_simp) ((HS4.out w (r12.below hw.drew)).mono ?_)))) ?_
   ·rintro e w' ⟨A', c', rfl, r', b'⟩
    exact ⟨_, rfl, b', A', c', rfl, r'⟩
   refine relOn rfl rfl (c := .bool true) (fun w hw => fill_take rfl rfl fun u hu => fill_take rfl rfl fun v hv' => fill_skip rfl (fill_end ?_)) (by simp only [Zs]; rfl) ?_
   ·obtain ⟨B1, d1, rfl, x1⟩ := hu
    obtain ⟨B2, d2, rfl, x2⟩ := hv'
    simp only [List.set_cons_succ, List.set_cons_zero]
    refine relOp_yes rfl (relRes_enterW 24 #[.agg (wtc As At B1 ns cs nt ct nn d1).toArray, .agg (wtc As At B2 ns cs nt ct nn d2).toArray] (by go_simp) ?_)
    exact (HSm.out B1 B2 d1 d2 w (S12.below hw.drew) (T12.below hw.drew) x1 x2).mono fun _ _ h => ⟨_, h.1, h.2, rfl⟩
   refine ZK ?_
   refine ZM ?_
   refine ZM ?_
   refine ZP (c := .bool false) (fun w _ => by go_simp; first | done | rfl) ?_
   refine ZM ?_
   refine ZM ?_
   refine ZP (c := .bool true) (fun w _ => by go_simp; first | done | rfl) ?_
   refine ZM ?_
   refine ZP (c := .agg (wtc As At A4 ns cs nt ct nn c4).toArray) (fun w hw => exec_loadAv (q12.below hw.drew) _ _ rfl rfl _ 3 rfl Tryd.underlying42 rfl (by kernel_rfl)) ?_
   refine relWord _ rfl (fun w hw => fill_none rfl (relOp_yes rfl (relRes_enterW 25 #[.agg (wtc As At A4 ns cs nt ct nn c4).toArray] (by go_simp) ((HS4.out w (r12.below hw.drew)).mono ?_)))) ?_
   ·rintro e w' ⟨A', c', rfl, r', b'⟩
    exact ⟨_, rfl, b', A', c', rfl, r'⟩
   refine ZP (c := .agg (wtc As At An ns cs nt ct nn cn).toArray) (fun w hw => exec_loadAv (a12.below hw.drew) _ _ rfl rfl _ 3 rfl Tryd.underlying26 rfl (by kernel_rfl)) ?_
   refine relOn rfl rfl (c := .bool true) (fun w hw => fill_skip rfl (fill_skip rfl (fill_take rfl rfl fun u hu => fill_end ?_))) (by simp only [Zs]; rfl) ?_
   ·obtain ⟨B1, d1, rfl, x1⟩ := hu
    simp only [List.set_cons_succ, List.set_cons_zero]
    refine relOp_yes rfl (relRes_enterW 24 #[.agg (wtc As At B1 ns cs nt ct nn d1).toArray, .agg (wtc As At An ns cs nt ct nn cn).toArray] (by go_simp) ?_)
    exact (HSm.out B1 An d1 cn w (S12.below hw.drew) (T12.below hw.drew) x1 (N12.below hw.drew)).mono fun _ _ h => ⟨_, h.1, h.2, rfl⟩
   refine ZK ?_
   refine ZK ?_
   refine ZK ?_
   refine ZM ?_
   refine ZM ?_
   refine ZM ?_
   refine ZM ?_
   refine ZP (c := .bool true) (fun w _ => by go_simp; first | done | rfl) ?_
   refine ZK ?_
   refine ZK ?_
   refine ZM ?_
   refine relEnd fun w13 hw13 => fill_take rfl rfl fun v1 hv1 => fill_take rfl rfl fun v2 hv2 => fill_take rfl rfl fun v3 hv3 => fill_end ?_
   simp only [List.set_cons_succ, List.set_cons_zero]
   go_wp2
   go_ret
   exact ⟨rfl, B12.trans (hw13.drew.mono B12.size)⟩
  ·clear horp
   refine wp_region_rel [(12, EyeW As At ns cs nt ct nn L), (14, EyeW As At ns cs nt ct nn L), (25, EyeW As At ns cs nt ct nn L)] Ext (by kernel_rfl) (by kernel_rfl) (by kernel_rfl) Ext.refl Ext.trans (by intro p hp v w w' hR; simp only [List.mem_cons, List.not_mem_nil, or_false] at hp; rcases hp with rfl | rfl | rfl <;> exact EyeW.mono hR) ?_
   refine ZM ?_
   refine ZM ?_
   refine ZM ?_
   refine ZM ?_
   refine ZP (c := .bool true) (fun w _ => by go_simp; first | done | rfl) ?_
   refine ZK ?_
   refine ZM ?_
   refine ZM ?_
   refine ZP (c := .bool true) (fun w _ => by go_simp; first | done | rfl) ?_
   refine ZK ?_
   refine ZM ?_
   refine ZP (c := .agg (wtc As At A5 ns cs nt ct nn c5).toArray) (fun w hw => exec_loadAv (u12.below hw.drew) _ _ rfl rfl _ 3 rfl Tryd.underlying42 rfl (by kernel_rfl)) ?_
   refine relWord _ rfl (fun w hw => fill_none rfl (relOp_yes rfl (relRes_enterW 25 #[.agg (wtc As At A5 ns cs nt ct nn c5).toArray] (by go_simp) ((HS5.out w (s12.below hw.drew)).mono ?_)))) ?_
   ·rintro e w' ⟨A', c', rfl, r', b'⟩
    exact ⟨_, rfl, b', A', c', rfl, r'⟩
   refine ZP (c := .agg (wtc As At A4 ns cs nt ct nn c4).toArray) (fun w hw => exec_loadAv (q12.below hw.drew) _ _ rfl rfl _ 3 rfl Tryd.underlying42 rfl (by kernel_rfl)) ?_
   refine relWord _ rfl (fun w hw => fill_none rfl (relOp_yes rfl (relRes_enterW 25 #[.agg (wtc As At A4 ns cs nt ct nn c4).toArray] (by go_simp) ((HS4.out w (r12.below hw.drew)).mono ?_)))) ?_
   ·rintro e w' ⟨A', c', rfl, r', b'⟩
    exact ⟨_, rfl, b', A', c', rfl, r'⟩
   refine relOn rfl rfl (c := .bool true) (fun w hw => fill_take rfl rfl fun u hu => fill_take rfl rfl fun v hv' => fill_skip rfl (fill_end ?_)) (by simp only [Zs]; rfl) ?_
   ·obtain ⟨B1, d1, rfl, x1⟩ := hu
    obtain ⟨B2, d2, rfl, x2⟩ := hv'
    simp only [List.set_cons_succ, List.set_cons_zero]
    refine relOp_yes rfl (relRes_enterW 24 #[.agg (wtc As At B1 ns cs nt ct nn d1).toArray, .agg (wtc As At B2 ns cs nt ct nn d2).toArray] (by go_simp) ?_)
    exact (HSm.out B1 B2 d1 d2 w (S12.below hw.drew) (T12.below hw.drew) x1 x2).mono fun _ _ h => ⟨_, h.1, h.2, rfl⟩
   refine ZK ?_
   refine ZM ?_
   refine ZM ?_
   refine ZP (c := .bool false) (fun w _ => by go_simp; first | done | rfl) ?_
   refine ZM ?_
   refine ZM ?_
   refine ZP (c := .bool true) (fun w _ => by go_simp; first | done | rfl) ?_
   refine ZM ?_
   refine ZP (c := .agg (wtc As At A4 ns cs nt ct nn c4).toArray) (fun w hw => exec_loadAv (q12.below hw.drew) _ _ rfl rfl _ 3 rfl Tryd.underlying42 rfl (by kernel_rfl)) ?_
   refine relWord _ rfl (fun w hw => fill_none rfl (relOp_yes rfl (relRes_enterW 25 #[.agg (wtc As At A4 ns cs nt ct nn c4).toArray] (by go_simp) ((HS4.out w (r12.below hw.drew)).mono ?_)))) ?_
   ·rintro e w' ⟨A', c', rfl, r', b'⟩
    exact ⟨_, rfl, b', A', c', rfl, r'⟩
   refine ZP (c := .agg (wtc As At An ns cs nt ct nn cn).toArray) (fun w hw => exec_loadAv (a12.below hw.drew) _ _ rfl rfl _ 3 rfl Tryd.underlying26 rfl (by kernel_rfl)) ?_
   refine relOn rfl rfl (c := .bool true) (fun w hw => fill_skip rfl (fill_skip rfl (fill_take rfl rfl fun u hu => fill_end ?_))) (by simp only [Zs]; rfl) ?_
   ·obtain ⟨B1, d1, rfl, x1⟩ := hu
    simp only [List.set_cons_succ, List.set_cons_zero]
    refine relOp_yes rfl (relRes_enterW 24 #[.agg (wtc As At B1 ns cs nt ct nn d1).toArray, .agg (wtc As At An ns cs nt ct nn cn).toArray] (by go_simp) ?_)
    exact (HSm.out B1 An d1 cn w (S12.below hw.drew) (T12.below hw.drew) x1 (N12.below hw.drew)).mono fun _ _ h => ⟨_, h.1, h.2, rfl⟩
   refine ZK ?_
   refine ZK ?_
   refine ZK ?_
   refine ZM ?_
   refine ZM ?_
   refine ZM ?_
   refine ZS ?_
   refine ZS ?_
   refine ZK ?_
   refine ZK ?_
   refine ZM ?_
   refine relEnd fun w13 hw13 => fill_take rfl rfl fun v1 hv1 => fill_take rfl rfl fun v2 hv2 => fill_take rfl rfl fun v3 hv3 => fill_end ?_
   simp only [List.set_cons_succ, List.set_cons_zero]
   go_wp2
   go_ret
   exact ⟨rfl, B12.trans (hw13.drew.mono B12.size)⟩
theorem law_WatchSame (S : List (List UInt8 × Sl)) (As At An : Option Addr) (ns cs nt ct nn cn : Nat) (hS : S.length = ns) (hns : ns ≤ maxLen) (T : List (List UInt8)) (hT : T.length = nt) (N : List Sn) (hN : N.length = nn)
  (l : List Hd) (B : Option Addr) (m d : Nat) (hm : l.length = m) (h : Hd) (hok : h.ok) (tot : Nat) (htot : tot < 4294967296) (hs : List (List UInt8)) (h32 : All32 hs) (fl : List UInt8) (Ah : Option Addr) (nh ch : Nat) (Af : Option Addr) (nf cf : Nat) (hnh : hs.length = nh) (hnf : fl.length = nf)
  (w : World) (ht : Tabs w) (rS : RdBss w As S) (rT : RdHs w At T) (rN : RdSns w An N) (rl : RdHds w B l) (rh : Rd w Ah (hcl hs)) (rf : Rd w Af (fl.map bv)) :
  Calls Tryd.prog 5 #[.agg (wtc As At An ns cs nt ct nn cn).toArray, .slice B m d, .agg (blc h tot Ah nh ch Af nf cf).toArray] w fun e w' => e = .returned (.bool true) ∧ Below w.heap.size w w' := by
 by_cases hfar : wFew (S.map (·.1)) nt nn = true ∧ m ≤ 20 ∧ nh ≤ 60 ∧ nf ≤ 60
 ·exact wsam_main S As At An ns cs nt ct nn cn hS hns T hT N hN l B m d hm h hok tot htot hs h32 fl Ah nh ch Af nf cf hnh hnf w ht rS rT rN rl rh rf hfar.1 hfar.2.1 hfar.2.2.1 hfar.2.2.2
 ·exact wsam_far S As At An ns cs nt ct nn cn hS hns T hT N hN l B m d hm h hok tot htot hs h32 fl Ah nh ch Af nf cf hnh hnf w ht rS rT rN rl rh rf hfar
end Go.Proofs.YtobjgebojhjhnaaDoor
