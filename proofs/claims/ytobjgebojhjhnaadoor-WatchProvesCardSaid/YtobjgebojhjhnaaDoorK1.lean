import Derived.Test.YtobjgebojhjhnaaDoorQr20
import Derived.Deep.CutRange
namespace Go.Proofs.YtobjgebojhjhnaaDoor
open Go.RowKit
def mFnd (M : List (Nat × List UInt8)) (s : Sn) (k : Nat) : Bool := (M.take k).any fun p => decide ((p.1 : Int) = s.pos) && (p.2 == s.id)
theorem mFnd_step {M : List (Nat × List UInt8)} {s : Sn} {k : Nat} {p : Nat × List UInt8} (h : M[k]? = some p) : mFnd M s (k + 1) = (mFnd M s k || (decide ((p.1 : Int) = s.pos) && (p.2 == s.id))) := by
 unfold mFnd
 rw [List.take_add_one, h]
 simp
theorem mFnd_all {T : List (List UInt8)} {I : List UInt8} {M : List (Nat × List UInt8)} {s : Sn} (h : Came T I M s) : mFnd M s M.length = true := by
 obtain ⟨_, _, p, hp, h1, h2⟩ := h
 unfold mFnd
 rw [List.take_length, List.any_eq_true]
 exact ⟨p, hp, by simp [h1, h2]⟩
def mWat (T : List (List UInt8)) (x : List UInt8) (k : Nat) : Bool := (T.take k).any fun t => t == x
theorem mWat_step {T : List (List UInt8)} {x : List UInt8} {k : Nat} {t : List UInt8} (h : T[k]? = some t) : mWat T x (k + 1) = (mWat T x k || (t == x)) := by
 unfold mWat
 rw [List.take_add_one, h]
 simp
theorem mWat_all {T : List (List UInt8)} {x : List UInt8} (h : T.contains x = true) : mWat T x T.length = true := by
 unfold mWat
 rw [List.take_length, List.any_eq_true]
 rw [List.contains_iff_mem] at h
 exact ⟨x, h, by simp⟩
theorem rg_mt_pos {w : World} {b o : Nat} {p : Nat × List UInt8} (r : w.rangeAt b o (mtc p)) : w.cell? ⟨b, o, none⟩ = some (.int .i64 (p.1 : Int)) := by
 have := r 0 _ (show (mtc p)[0]? = some _ from rfl)
 simpa using this
set_option maxRecDepth 100000 in
set_option maxHeartbeats 8000000 in
theorem wprv_far (S : List (List UInt8 × Sl)) (As At An : Option Addr) (ns cs nt ct nn cn : Nat) (hS : S.length = ns) (hns : ns ≤ maxLen) (T : List (List UInt8)) (hT : T.length = nt) (N : List Sn) (hN : N.length = nn)
  (l : List Hd) (B : Option Addr) (m d : Nat) (hm : l.length = m) (h : Hd) (hok : h.ok) (tot : Nat) (_ : tot < 4294967296) (hs : List (List UInt8)) (_ : All32 hs) (fl : List UInt8) (Ah : Option Addr) (nh ch : Nat) (Af : Option Addr) (nf cf : Nat) (hnh : hs.length = nh) (_ : fl.length = nf)
  (w : World) (ht : Tabs w) (rS : RdBss w As S) (_ : RdHs w At T) (_ : RdSns w An N) (_ : RdHds w B l) (_ : Rd w Ah (hcl hs)) (_ : Rd w Af (fl.map bv)) (hfar : ¬ (wFew (S.map (·.1)) nt nn = true ∧ m ≤ 20 ∧ nh ≤ 60 ∧ nf ≤ 60)) :
  Calls Tryd.prog 3 #[.agg (wtc As At An ns cs nt ct nn cn).toArray, .slice B m d, .agg (blc h tot Ah nh ch Af nf cf).toArray] w fun e w' => e = .returned (.bool true) ∧ Below w.heap.size w w' := by
 by_cases hfew : wFew (S.map (·.1)) nt nn = true
 ·by_cases h20 : 20 < m
  · have t1 : decide ((20 : Int) < (m : Int)) = true := by simp; omega
    have t1' : decide (20 < m) = true := by simp; omega
    clear hfar
    have HA := fun w' t => awake21 w' t
    have HF := fun w' r => WFew S As At An ns cs nt ct nn cn hS hns w' r
    rw [hfew] at HF
    obtain ⟨W, hW⟩ : ∃ W, W = (w.alloc (.cells (wtc As At An ns cs nt ct nn cn).toArray 26)).alloc (.cells (blc h tot Ah nh ch Af nf cf).toArray 35) := ⟨_, rfl⟩
    obtain ⟨H, hH⟩ : ∃ H, H = w.heap.size := ⟨_, rfl⟩
    have aW : Av W H 26 (wtc As At An ns cs nt ct nn cn) := by rw [hW, hH]; exact heap_alloc2_old _ _ _
    have xW : Av W (H + 1) 35 (blc h tot Ah nh ch Af nf cf) := by rw [hW, hH]; exact heap_alloc2_new _ _ _
    have bW : Below w.heap.size w W := by rw [hW]; exact ((Below.refl _ _).alloc (Nat.le_refl _) _).alloc (by simp) _
    obtain ⟨d68, d69, d70⟩ := blc_at (h := h) (tot := tot) (Ah := Ah) (nh := nh) (ch := ch) (Af := Af) (nf := nf) (cf := cf) hok
    have x71 := Lib.hid (blc_length (h := h) (tot := tot) (Ah := Ah) (nh := nh) (ch := ch) (Af := Af) (nf := nf) (cf := cf) hok)
    have htW := ht.below bW
    have rSW := rS.below bW
    replace HA := Lib.hid HA
    replace HF := Lib.hid HF
    replace hW := Lib.hid hW
    replace hH := Lib.hid hH
    replace d68 := Lib.hid d68
    replace d69 := Lib.hid d69
    replace d70 := Lib.hid d70
    replace hS := Lib.hid hS
    replace hT := Lib.hid hT
    replace hN := Lib.hid hN
    replace hm := Lib.hid hm
    clear hfew
    go_enter Tryd.func3, Tryd.ntmps3
    go_upto_region 1 with fail
    rw [← hW.out, ← hH.out]
    go_upto_region 2 with (go_at_call 9; refine (HA.out W htW).mono ?_; rintro e w1 ⟨rfl, b1⟩)
    have a1 := aW.below b1
    have x1 := xW.below b1
    have rS1 := rSW.below b1
    have B1 := bW.trans (b1.mono bW.size)
    have l3 : (wtc As At An ns cs nt ct nn cn).length = 3 := rfl
    go_wp2_with (first
     | ((with_reducible refine wpList_loadF 26 a1 ?_ _ 3 l3 Tryd.underlying26 ?_ ?_ ?_); rfl; rfl; kernel_rfl)
     | (go_at_call 10; refine (HF.out w1 rS1).mono ?_; rintro e2 w2 ⟨rfl, b2⟩; have x2 := x1.below b2; have f69 := x2.cell 69 _ d69.out; have f70 := x2.cell 70 _ d70.out))
    go_ret
    exact ⟨rfl, B1.trans (b2.mono B1.size)⟩
  ·by_cases h60 : 60 < nh
   · have t1 : decide ((20 : Int) < (m : Int)) = false := by simp; omega
     have t1' : decide (20 < m) = false := by simp; omega
     have t2 : decide ((60 : Int) < (nh : Int)) = true := by simp; omega
     have t2' : decide (60 < nh) = true := by simp; omega
     clear hfar
     have HA := fun w' t => awake21 w' t
     have HF := fun w' r => WFew S As At An ns cs nt ct nn cn hS hns w' r
     rw [hfew] at HF
     obtain ⟨W, hW⟩ : ∃ W, W = (w.alloc (.cells (wtc As At An ns cs nt ct nn cn).toArray 26)).alloc (.cells (blc h tot Ah nh ch Af nf cf).toArray 35) := ⟨_, rfl⟩
     obtain ⟨H, hH⟩ : ∃ H, H = w.heap.size := ⟨_, rfl⟩
     have aW : Av W H 26 (wtc As At An ns cs nt ct nn cn) := by rw [hW, hH]; exact heap_alloc2_old _ _ _
     have xW : Av W (H + 1) 35 (blc h tot Ah nh ch Af nf cf) := by rw [hW, hH]; exact heap_alloc2_new _ _ _
     have bW : Below w.heap.size w W := by rw [hW]; exact ((Below.refl _ _).alloc (Nat.le_refl _) _).alloc (by simp) _
     obtain ⟨d68, d69, d70⟩ := blc_at (h := h) (tot := tot) (Ah := Ah) (nh := nh) (ch := ch) (Af := Af) (nf := nf) (cf := cf) hok
     have x71 := Lib.hid (blc_length (h := h) (tot := tot) (Ah := Ah) (nh := nh) (ch := ch) (Af := Af) (nf := nf) (cf := cf) hok)
     have htW := ht.below bW
     have rSW := rS.below bW
     replace HA := Lib.hid HA
     replace HF := Lib.hid HF
     replace hW := Lib.hid hW
     replace hH := Lib.hid hH
     replace d68 := Lib.hid d68
     replace d69 := Lib.hid d69
     replace d70 := Lib.hid d70
     replace hS := Lib.hid hS
     replace hT := Lib.hid hT
     replace hN := Lib.hid hN
     replace hm := Lib.hid hm
     clear hfew
     go_enter Tryd.func3, Tryd.ntmps3
     go_upto_region 1 with fail
     rw [← hW.out, ← hH.out]
     go_upto_region 2 with (go_at_call 9; refine (HA.out W htW).mono ?_; rintro e w1 ⟨rfl, b1⟩)
     have a1 := aW.below b1
     have x1 := xW.below b1
     have rS1 := rSW.below b1
     have B1 := bW.trans (b1.mono bW.size)
     have l3 : (wtc As At An ns cs nt ct nn cn).length = 3 := rfl
     go_wp2_with (first
      | ((with_reducible refine wpList_loadF 26 a1 ?_ _ 3 l3 Tryd.underlying26 ?_ ?_ ?_); rfl; rfl; kernel_rfl)
      | (go_at_call 10; refine (HF.out w1 rS1).mono ?_; rintro e2 w2 ⟨rfl, b2⟩; have x2 := x1.below b2; have f69 := x2.cell 69 _ d69.out; have f70 := x2.cell 70 _ d70.out))
     go_ret
     exact ⟨rfl, B1.trans (b2.mono B1.size)⟩
   ·have h6f : 60 < nf := by
     rcases Nat.lt_or_ge 60 nf with q | q
     ·exact q
     ·exact absurd ⟨hfew, by omega, by omega, q⟩ hfar
    have t1 : decide ((20 : Int) < (m : Int)) = false := by simp; omega
    have t1' : decide (20 < m) = false := by simp; omega
    have t2 : decide ((60 : Int) < (nh : Int)) = false := by simp; omega
    have t2' : decide (60 < nh) = false := by simp; omega
    have t3 : decide ((60 : Int) < (nf : Int)) = true := by simp; omega
    have t3' : decide (60 < nf) = true := by simp; omega
    clear hfar
    have HA := fun w' t => awake21 w' t
    have HF := fun w' r => WFew S As At An ns cs nt ct nn cn hS hns w' r
    rw [hfew] at HF
    obtain ⟨W, hW⟩ : ∃ W, W = (w.alloc (.cells (wtc As At An ns cs nt ct nn cn).toArray 26)).alloc (.cells (blc h tot Ah nh ch Af nf cf).toArray 35) := ⟨_, rfl⟩
    obtain ⟨H, hH⟩ : ∃ H, H = w.heap.size := ⟨_, rfl⟩
    have aW : Av W H 26 (wtc As At An ns cs nt ct nn cn) := by rw [hW, hH]; exact heap_alloc2_old _ _ _
    have xW : Av W (H + 1) 35 (blc h tot Ah nh ch Af nf cf) := by rw [hW, hH]; exact heap_alloc2_new _ _ _
    have bW : Below w.heap.size w W := by rw [hW]; exact ((Below.refl _ _).alloc (Nat.le_refl _) _).alloc (by simp) _
    obtain ⟨d68, d69, d70⟩ := blc_at (h := h) (tot := tot) (Ah := Ah) (nh := nh) (ch := ch) (Af := Af) (nf := nf) (cf := cf) hok
    have x71 := Lib.hid (blc_length (h := h) (tot := tot) (Ah := Ah) (nh := nh) (ch := ch) (Af := Af) (nf := nf) (cf := cf) hok)
    have htW := ht.below bW
    have rSW := rS.below bW
    replace HA := Lib.hid HA
    replace HF := Lib.hid HF
    replace hW := Lib.hid hW
    replace hH := Lib.hid hH
    replace d68 := Lib.hid d68
    replace d69 := Lib.hid d69
    replace d70 := Lib.hid d70
    replace hS := Lib.hid hS
    replace hT := Lib.hid hT
    replace hN := Lib.hid hN
    replace hm := Lib.hid hm
    clear hfew
    go_enter Tryd.func3, Tryd.ntmps3
    go_upto_region 1 with fail
    rw [← hW.out, ← hH.out]
    go_upto_region 2 with (go_at_call 9; refine (HA.out W htW).mono ?_; rintro e w1 ⟨rfl, b1⟩)
    have a1 := aW.below b1
    have x1 := xW.below b1
    have rS1 := rSW.below b1
    have B1 := bW.trans (b1.mono bW.size)
    have l3 : (wtc As At An ns cs nt ct nn cn).length = 3 := rfl
    go_wp2_with (first
     | ((with_reducible refine wpList_loadF 26 a1 ?_ _ 3 l3 Tryd.underlying26 ?_ ?_ ?_); rfl; rfl; kernel_rfl)
     | (go_at_call 10; refine (HF.out w1 rS1).mono ?_; rintro e2 w2 ⟨rfl, b2⟩; have x2 := x1.below b2; have f69 := x2.cell 69 _ d69.out; have f70 := x2.cell 70 _ d70.out))
    go_ret
    exact ⟨rfl, B1.trans (b2.mono B1.size)⟩
 ·rw [Bool.not_eq_true] at hfew
  clear hfar
  have HA := fun w' t => awake21 w' t
  have HF := fun w' r => WFew S As At An ns cs nt ct nn cn hS hns w' r
  rw [hfew] at HF
  obtain ⟨W, hW⟩ : ∃ W, W = (w.alloc (.cells (wtc As At An ns cs nt ct nn cn).toArray 26)).alloc (.cells (blc h tot Ah nh ch Af nf cf).toArray 35) := ⟨_, rfl⟩
  obtain ⟨H, hH⟩ : ∃ H, H = w.heap.size := ⟨_, rfl⟩
  have aW : Av W H 26 (wtc As At An ns cs nt ct nn cn) := by rw [hW, hH]; exact heap_alloc2_old _ _ _
  have xW : Av W (H + 1) 35 (blc h tot Ah nh ch Af nf cf) := by rw [hW, hH]; exact heap_alloc2_new _ _ _
  have bW : Below w.heap.size w W := by rw [hW]; exact ((Below.refl _ _).alloc (Nat.le_refl _) _).alloc (by simp) _
  obtain ⟨d68, d69, d70⟩ := blc_at (h := h) (tot := tot) (Ah := Ah) (nh := nh) (ch := ch) (Af := Af) (nf := nf) (cf := cf) hok
  have x71 := Lib.hid (blc_length (h := h) (tot := tot) (Ah := Ah) (nh := nh) (ch := ch) (Af := Af) (nf := nf) (cf := cf) hok)
  have htW := ht.below bW
  have rSW := rS.below bW
  replace HA := Lib.hid HA
  replace HF := Lib.hid HF
  replace hW := Lib.hid hW
  replace hH := Lib.hid hH
  replace d68 := Lib.hid d68
  replace d69 := Lib.hid d69
  replace d70 := Lib.hid d70
  replace hS := Lib.hid hS
  replace hT := Lib.hid hT
  replace hN := Lib.hid hN
  replace hm := Lib.hid hm
  clear hfew
  go_enter Tryd.func3, Tryd.ntmps3
  go_upto_region 1 with fail
  rw [← hW.out, ← hH.out]
  go_upto_region 2 with (go_at_call 9; refine (HA.out W htW).mono ?_; rintro e w1 ⟨rfl, b1⟩)
  have a1 := aW.below b1
  have x1 := xW.below b1
  have rS1 := rSW.below b1
  have B1 := bW.trans (b1.mono bW.size)
  have l3 : (wtc As At An ns cs nt ct nn cn).length = 3 := rfl
  go_wp2_with (first
   | ((with_reducible refine wpList_loadF 26 a1 ?_ _ 3 l3 Tryd.underlying26 ?_ ?_ ?_); rfl; rfl; kernel_rfl)
   | (go_at_call 10; refine (HF.out w1 rS1).mono ?_; rintro e2 w2 ⟨rfl, b2⟩; have x2 := x1.below b2; have f69 := x2.cell 69 _ d69.out; have f70 := x2.cell 70 _ d70.out))
  go_ret
  exact ⟨rfl, B1.trans (b2.mono B1.size)⟩
set_option maxRecDepth 100000 in
set_option maxHeartbeats 16000000 in
theorem wprv_main (S : List (List UInt8 × Sl)) (As At An : Option Addr) (ns cs nt ct nn cn : Nat) (hS : S.length = ns) (hns : ns ≤ maxLen) (T : List (List UInt8)) (hT : T.length = nt) (N : List Sn) (hN : N.length = nn)
  (l : List Hd) (B : Option Addr) (m d : Nat) (hm : l.length = m) (h : Hd) (hok : h.ok) (tot : Nat) (htot : tot < 4294967296) (hs : List (List UInt8)) (h32 : All32 hs) (fl : List UInt8) (Ah : Option Addr) (nh ch : Nat) (Af : Option Addr) (nf cf : Nat) (hnh : hs.length = nh) (hnf : fl.length = nf)
  (w : World) (ht : Tabs w) (rS : RdBss w As S) (rT : RdHs w At T) (rN : RdSns w An N) (rl : RdHds w B l) (rh : Rd w Ah (hcl hs)) (rf : Rd w Af (fl.map bv)) (hfew : wFew (S.map (·.1)) nt nn = true) (hm20 : m ≤ 20) (hnh60 : nh ≤ 60) (hnf60 : nf ≤ 60) :
  Calls Tryd.prog 3 #[.agg (wtc As At An ns cs nt ct nn cn).toArray, .slice B m d, .agg (blc h tot Ah nh ch Af nf cf).toArray] w fun e w' => e = .returned (.bool true) ∧ Below w.heap.size w w' := by
 obtain ⟨_, hns3, hnt60, hnn60⟩ := wFew_iff.1 hfew
 have hzs := zeros_Sn
 have hzr := zeros_Snr
 obtain ⟨ys, hyy⟩ : ∃ ys, ys = snc ⟨List.replicate 32 0, List.replicate 32 0, 0⟩ := ⟨_, rfl⟩
 have hyl := Lib.hid (show ys.length = 65 by rw [hyy]; rfl)
 rw [← hyy] at hzs hzr
 clear hyy
 have t1 : decide ((20 : Int) < (m : Int)) = false := by simp; omega
 have t2 : decide ((60 : Int) < (nh : Int)) = false := by simp; omega
 have t3 : decide ((60 : Int) < (nf : Int)) = false := by simp; omega
 have HPl := fun w' t r => Plainly l B m d hm (by omega) w' t r
 obtain ⟨ds, hds⟩ : ∃ ds, ds = mAll 60 l := ⟨_, rfl⟩
 rw [← hds] at HPl
 have HE := fun w' r => Eye As At An ns cs nt ct nn cn N hN (by omega) w' r
 have HB := fun w' => BlockL h hok tot Ah nh ch Af nf cf w'
 obtain ⟨L, k, e, hpr⟩ : ∃ L k e, wProve ds T N h tot hs fl = (L, k, e) := ⟨_, _, _, rfl⟩
 have HA := fun w' t => awake21 w' t
 have HF := fun w' r => WFew S As At An ns cs nt ct nn cn hS hns w' r
 rw [hfew] at HF
 obtain ⟨W, hW⟩ : ∃ W, W = (w.alloc (.cells (wtc As At An ns cs nt ct nn cn).toArray 26)).alloc (.cells (blc h tot Ah nh ch Af nf cf).toArray 35) := ⟨_, rfl⟩
 obtain ⟨H, hH⟩ : ∃ H, H = w.heap.size := ⟨_, rfl⟩
 have aW : Av W H 26 (wtc As At An ns cs nt ct nn cn) := by rw [hW, hH]; exact heap_alloc2_old _ _ _
 have xW : Av W (H + 1) 35 (blc h tot Ah nh ch Af nf cf) := by rw [hW, hH]; exact heap_alloc2_new _ _ _
 have bW : Below w.heap.size w W := by rw [hW]; exact ((Below.refl _ _).alloc (Nat.le_refl _) _).alloc (by simp) _
 obtain ⟨d68, d69, d70⟩ := blc_at (h := h) (tot := tot) (Ah := Ah) (nh := nh) (ch := ch) (Af := Af) (nf := nf) (cf := cf) hok
 have x71 := Lib.hid (blc_length (h := h) (tot := tot) (Ah := Ah) (nh := nh) (ch := ch) (Af := Af) (nf := nf) (cf := cf) hok)
 have htW := ht.below bW
 have rSW := rS.below bW
 replace HA := Lib.hid HA
 replace HF := Lib.hid HF
 replace hW := Lib.hid hW
 replace hH := Lib.hid hH
 replace d68 := Lib.hid d68
 replace d69 := Lib.hid d69
 replace d70 := Lib.hid d70
 replace hS := Lib.hid hS
 replace hT := Lib.hid hT
 replace hN := Lib.hid hN
 replace hm := Lib.hid hm
 replace hfew := Lib.hid hfew
 replace HPl := Lib.hid HPl
 replace HE := Lib.hid HE
 replace HB := Lib.hid HB
 replace hpr := Lib.hid hpr
 replace hds := Lib.hid hds
 go_enter Tryd.func3, Tryd.ntmps3
 go_upto_region 1 with fail
 rw [← hW.out, ← hH.out]
 go_upto_region 2 with (go_at_call 9; refine (HA.out W htW).mono ?_; rintro e w1 ⟨rfl, b1⟩)
 have a1 := aW.below b1
 have x1 := xW.below b1
 have rS1 := rSW.below b1
 have B1 := bW.trans (b1.mono bW.size)
 have l3 : (wtc As At An ns cs nt ct nn cn).length = 3 := rfl
 have e69 := Lib.hid d69.out
 go_upto_region 4 with (first
  | ((with_reducible refine wpList_loadF 26 a1 ?_ _ 3 l3 Tryd.underlying26 ?_ ?_ ?_); rfl; rfl; kernel_rfl)
  | (go_at_call 10; refine (HF.out w1 rS1).mono ?_; rintro e2 w2 ⟨rfl, b2⟩; have x2 := x1.below b2; have f69 := x2.cell 69 _ d69.out; have f70 := x2.cell 70 _ d70.out))
 have B2 := B1.trans (b2.mono B1.size)
 have t2' := ht.below B2
 have rl2 := rl.below B2
 clear f69 f70
 go_upto_region 5 with (go_at_call 11; refine (HPl.out w2 t2' rl2).mono ?_; rintro e2 wr ⟨vt, rfl, hvR, b3⟩)
 have BR := B2.trans (b3.mono B2.size)
 have aR := (a1.below b2).below b3
 have xR := x2.below b3
 have htR := ht.below BR
 have rNR := rN.below BR
 have rTR := rT.below BR
 have rhR := rh.below BR
 have rfR := rf.below BR
 have HP := fun A' c' w' t hv rT rN rh rf => WProve As At A' ns cs nt ct nn c' T hT.out (by omega) N hN.out (by omega) vt ds h hok tot htot hs h32 fl Ah nh ch Af nf cf hnh hnf (by omega) (by omega) w' t hv rT rN rh rf
 rw [hpr.out] at HP
 dsimp only at HP
 replace HP := Lib.hid HP
 refine wp_region_relL [(8, 11), (9, 11), (9, 12)] 11 [(1, EyeW As At ns cs nt ct nn N), (5, PrvW As At ns cs nt ct L k e), (6, PrvW As At ns cs nt ct L k e), (7, WtW As At ns cs nt ct L), (10, AlcW wr.heap.size)] Ext (by kernel_rfl) (by simp only [lates, late, List.push_toArray, List.cons_append, List.nil_append]; rfl) (by kernel_rfl) (fun _ _ _ _ _ h => h) (by kernel_rfl) (by kernel_rfl) (by kernel_rfl) (by kernel_rfl) Ext.refl Ext.trans (by intro p hp v w w' hR; simp only [List.mem_cons, List.not_mem_nil, or_false] at hp; rcases hp with rfl | rfl | rfl | rfl | rfl; exact EyeW.mono hR; exact PrvW.mono hR; exact PrvW.mono hR; exact WtW.mono hR; exact AlcW.mono hR) ?_
 refine ZP (c := .agg (wtc As At An ns cs nt ct nn cn).toArray) (fun w hw => exec_loadAv (aR.below hw.drew) _ _ rfl rfl _ 3 rfl Tryd.underlying26 rfl (by kernel_rfl)) ?_
 refine relWord _ rfl (fun w hw => fill_none rfl (relOp_yes rfl (relRes_enterW 13 #[.agg (wtc As At An ns cs nt ct nn cn).toArray] (by go_simp) ((HE.out w (rNR.below hw.drew)).mono ?_)))) ?_
 ·rintro e w' ⟨A', c', rfl, r', b'⟩
  exact ⟨_, rfl, b', A', c', rfl, r'⟩
 refine ZM ?_
 refine ZP (c := .agg (blc h tot Ah nh ch Af nf cf).toArray) (fun w hw => exec_loadAv (xR.below hw.drew) _ _ rfl rfl _ 71 x71.out Tryd.underlying35 rfl (by kernel_rfl)) ?_
 refine ZC (c := .agg (blc h tot Ah nh ch Af nf cf).toArray) 14 #[.agg (blc h tot Ah nh ch Af nf cf).toArray] (fun w hw => (HB.out w).mono ?_) ?_
 ·rintro e w' ⟨rfl, b⟩
  exact ⟨rfl, b⟩
 refine relWord _ rfl (fun w hw => fill_take rfl rfl fun v hv => fill_none rfl (relOp_yes rfl ?_)) ?_
 ·obtain ⟨A', c', rfl, r'⟩ := hv
  refine relRes_enterW 12 #[.agg (wtc As At A' ns cs nt ct nn c').toArray, vt, .agg (blc h tot Ah nh ch Af nf cf).toArray] (by go_simp) ((HP.out A' c' w (htR.below hw.drew) (hvR.below hw.drew) (rTR.below hw.drew) r' (rhR.below hw.drew) (rfR.below hw.drew)).mono ?_)
  rintro e w' ⟨A2, n2, c2, rfl, hl2, r2, b2⟩
  exact ⟨_, rfl, b2, A2, n2, c2, rfl, hl2, r2⟩
 refine relWord _ rfl (fun w hw => fill_skip rfl (fill_take rfl rfl fun v hv => fill_none rfl (relOp_yes rfl ?_))) ?_
 ·exact ⟨Ext.refl _, hv⟩
 refine relWord _ rfl (fun w hw => fill_skip rfl (fill_skip rfl (fill_take rfl rfl fun v hv => fill_none rfl (relOp_yes rfl ?_)))) ?_
 ·obtain ⟨A2, n2, c2, rfl, hl2, r2⟩ := hv
  exact ⟨Ext.refl _, A2, n2, c2, rfl, hl2, r2⟩
 refine relOn rfl rfl (c := .int .i64 (k : Int)) (fun w hw => fill_skip rfl (fill_skip rfl (fill_take rfl rfl fun v hv => fill_none rfl (relOp_yes rfl ?_)))) (by simp only [Zs]; rfl) ?_
 ·obtain ⟨A2, n2, c2, rfl, hl2, r2⟩ := hv
  exact ⟨Ext.refl _, rfl⟩
 refine relOn rfl rfl (c := .int .i64 (e : Int)) (fun w hw => fill_skip rfl (fill_skip rfl (fill_take rfl rfl fun v hv => fill_none rfl (relOp_yes rfl ?_)))) (by simp only [Zs]; rfl) ?_
 ·obtain ⟨A2, n2, c2, rfl, hl2, r2⟩ := hv
  exact ⟨Ext.refl _, rfl⟩
 refine relWord _ rfl (fun w hw => fill_none rfl (relOp_yes rfl ?_)) ?_
 ·exact ⟨(Below.refl _ _).alloc (Nat.le_refl _) _, w.heap.size, rfl, hw.drew.size, heap_alloc_new _ _⟩
 refine relEnd fun w6 hw6 => fill_take rfl rfl fun v1 hv1 => fill_take rfl rfl fun v2 hv2 => fill_take rfl rfl fun v3 hv3 => fill_take rfl rfl fun v4 hv4 => fill_take rfl rfl fun v5 hv5 => fill_end ?_
 obtain ⟨A4, n4, c4, rfl, hl4, r4⟩ := hv4
 obtain ⟨G9, rfl, hG9, z9⟩ := hv5
 clear hv1 hv2 hv3
 simp only [List.set_cons_succ, List.set_cons_zero, List.drop_succ_cons, List.drop_zero]
 have b6 : Below wr.heap.size wr w6 := hw6.drew
 have wone := wtc_one As At A4 ns cs nt ct n4 c4
 have l4' : (wtc As At A4 ns cs nt ct n4 c4).length = 3 := rfl
 go_upto_region 6 with ((with_reducible refine wpList_storeFA 42 b6 z9 hG9 (wtc As At A4 ns cs nt ct n4 c4) ?_ ?_ 3 l4' ?_ ?_ ?_ ?_); rfl; rfl; kernel_rfl; rfl; exact wone; intro w7 a7 b7 k7 z7)
 have f7 : Fr (fun k => k = G9) w6 w7 := ⟨b7.os.trans b6.os.symm, b7.tape.trans b6.tape.symm, b7.output.trans b6.output.symm, by rw [z7]; exact Nat.le_refl _, fun k _ hk => k7 k hk⟩
 have r7 := r4.off z9 f7
 have B7 := BR.trans (b7.mono BR.size)
 have aL := aR.below b7
 have xL := xR.below b7
 have ht7 := htR.below b7
 have hv7 := hvR.below b7
 have rh7 := rhR.below b7
 have rf7 := rfR.below b7
 clear b6 f7 k7 z7 r4 z9
 have hwq := xOut_bnd hs h32 tot fl
 obtain ⟨R, M, F, hxo⟩ : ∃ R M F, xOut (pExt tot hs fl) = (R, M, F) := ⟨_, _, _, rfl⟩
 have HX : ∀ w' : World, Rd w' Ah (hcl hs) → Rd w' Af (fl.map bv) → Tabs w' → Calls Tryd.prog 15 #[.agg (trc tot Ah nh ch Af nf cf).toArray] w' fun e w'' => ∃ A c, e = .returned (.tuple #[.agg (R.map bv).toArray, .slice A M.length c, .int .i64 (F : Int)]) ∧ Rd w'' A (mlc M) ∧ Below w'.heap.size w' w'' := fun w' r1 r2 t => by
  refine (PExt fl hs h32 tot Ah nh ch Af nf cf hnh hnf htot (by omega) (by omega) w' r1 r2 t).mono fun e w'' q => ?_
  obtain ⟨A, c, he, hr, b⟩ := ExtU q
  rw [hxo] at he hr
  exact ⟨A, c, he, hr, b⟩
 obtain ⟨Ml, hMl0⟩ : ∃ q, q = M.length := ⟨_, rfl⟩
 rw [← hMl0] at HX
 rw [hxo] at hwq
 obtain ⟨R32, M32, hMl⟩ : R.length = 32 ∧ (∀ p ∈ M, p.2.length = 32) ∧ M.length ≤ hs.length := hwq
 rw [← hMl0] at hMl
 replace HX := Lib.hid HX
 have r32 := Lib.hid (show (R.map bv).length = 32 by rw [List.length_map, R32])
 have rone := Lib.hid (show (R.map bv).all (·.oneCell') = true by rw [List.all_eq_true]; exact bv_one R)
 have hbt := Lib.hid (pt_built tot Ah nh ch Af nf cf)
 have g68 := xL.cell 68 _ d68.out
 have g69 := xL.cell 69 _ d69.out
 have g70 := xL.cell 70 _ d70.out
 have hcode := wProve_code hpr.out
 obtain ⟨D, hL, hDk, hK0, hCm⟩ := wProve_came hpr.out
 rw [hxo] at hcode hCm
 dsimp only at hcode hCm
 replace hMl0 := Lib.hid hMl0
 replace hL := Lib.hid hL
 replace hCm := Lib.hid hCm
 replace hcode := Lib.hid hcode
 replace hxo := Lib.hid hxo
 replace hDk := Lib.hid hDk
 go_upto_region 7 with (first
  | ((with_reducible refine wpList_buildE (.agg (trc tot Ah nh ch Af nf cf).toArray) ?_ ?_); exact exec_build (cs := trc tot Ah nh ch Af nf cf) (ops := [(0, .tmp 60), (1, .tmp 62), (2, .tmp 64)]) rfl hbt.out)
  | (go_at_call 15; refine (HX.out w7 rh7 rf7 ht7).mono ?_; rintro e8 w8 ⟨A8, c8, rfl, r8, b8⟩)
  | ((with_reducible refine wpList_storeF 30 ((Below.refl w8.heap.size w8).alloc (Nat.le_refl _) _) (heap_alloc_new _ _) (Nat.le_refl _) (R.map bv) ?_ ?_ 32 r32.out ?_ ?_ ?_ ?_); rfl; rfl; kernel_rfl; (first | rfl | simp); exact rone.out; intro w9 a9 b9 k9 z9; clear k9; replace z9 := Lib.hid z9))
 clear g68 g69 g70
 have a10 := (aL.below b8).below b9
 have x10 := (xL.below b8).below b9
 have q10 := (a7.below b8).below b9
 have B9 := (B7.trans (b8.mono B7.size)).trans (b9.mono (B7.trans (b8.mono B7.size)).size)
 have t9 := (ht7.below b8).below b9
 have v9 := (hv7.below b8).below b9
 have s9 := (r7.below b8).below b9
 have m9 := r8.below b9
 have T9 := rT.below B9
 have N9 := rN.below B9
 obtain ⟨I, hI⟩ : ∃ I, I = hdId h := ⟨_, rfl⟩
 have I32 : I.length = 32 := by rw [hI]; exact hdId_length h
 have HI := fun w' t => HdId h hok w' t
 have HFn := fun w' r => TFind vt ds I I32 w' r
 rw [← hI] at HI
 have rhd : w9.rangeAt (H + 1) 0 (hdc h) := blc_head x10
 have h68 := Lib.hid (hdc_length hok)
 obtain ⟨fo, hfo⟩ : ∃ fo, fo = tFind ds I := ⟨_, rfl⟩
 rw [← hfo] at HFn
 have hcode := hcode.out
 have hCm := hCm.out
 rw [← hI] at hcode hCm
 rw [← hfo] at hcode
 replace hcode := Lib.hid hcode
 replace hCm := Lib.hid hCm
 replace HI := Lib.hid HI
 replace HFn := Lib.hid HFn
 replace hfo := Lib.hid hfo
 replace hI := Lib.hid hI
 replace I32 := Lib.hid I32
 replace R32 := Lib.hid R32
 go_upto_region 8 with (first
  | ((with_reducible refine wpList_loadMF 32 (hdc h) rhd ?_ _ Tryd.underlying32 ?_ ?_ ?_); rfl; rfl; (rw [h68.out]; kernel_rfl))
  | (go_at_call 17; refine (HI.out w9 t9).mono ?_; rintro e10 w10 ⟨rfl, b10⟩)
  | (go_at_call 16; refine (HFn.out w10 (v9.below b10)).mono ?_; rintro e11 w11 ⟨rfl, b11⟩))
 have b911 := b10.trans (b11.mono b10.size)
 have B11 := B9.trans (b911.mono B9.size)
 have hn4 : n4 = nn + k := by have := congrArg List.length hL.out; rw [List.length_append, hDk.out, hl4, hN.out] at this; exact this
 have a11 := a10.below b911
 have x11 := x10.below b911
 have q11 := q10.below b911
 have i11 := a9.below b911
 have t11 := t9.below b911
 have s11 := s9.below b911
 have m11 := m9.below b911
 have T11 := T9.below b911
 have N11 := N9.below b911
 clear a10 x10 q10 a9 t9 s9 m9 T9 N9 rhd v9 b911 b10 b11 b8 b9
 have rr11 : w11.rangeAt (H + 1) 33 (h.root.map bv) := blc_root hok x11
 have EQ := eqlHg R h.root R32.out hok.2.2.1
 have hroot := Lib.hid (show (h.root.map bv).length = 32 by rw [List.length_map, hok.2.2.1])
 have lw11 : w11.cell? ⟨H, 2, none⟩ = some (.slice An nn cn) := a11.cell 2 _ rfl
 have lv11 : w11.cell? ⟨G9, 2, none⟩ = some (.slice A4 n4 c4) := q11.cell 2 _ rfl
 have hk60 : k ≤ 60 := by have := wProve_len h32 hpr.out; omega
 have hn120 : n4 ≤ 120 := by omega
 replace EQ := Lib.hid EQ
 obtain ⟨fb, hfb⟩ : ∃ fb, fb = fo.isSome := ⟨_, rfl⟩
 have hcode := hcode.out
 rw [← hfb] at hcode ⊢
 replace hcode := Lib.hid hcode
 replace hfb := Lib.hid hfb
 go_cut [111] from 78 to 111 (fun c wx => c = .bool false ∧ wx = w11)
 case first =>
  clear hCm s11 m11 T11 N11 t11 HX HPl HP HE HF HA HI HFn HB
  rcases Nat.eq_zero_or_pos e with he | he
  ·have hc3 : fb = true ∧ F = 0 ∧ (R == h.root) = true := by have := hcode.out; rw [he] at this; simpa using this
   obtain ⟨hk, hF0, hRr⟩ := hc3
   have EQ := EQ.out
   subst hk
   rw [hRr] at EQ
   replace EQ := Lib.hid EQ
   have E4 : (n4 : Int) = (nn : Int) + (k : Int) := by rw [hn4]; simp
   replace E4 := Lib.hid E4
   subst hF0
   subst he
   clear hcode hK0 hRr
   replace hn4 := Lib.hid hn4
   replace hl4 := Lib.hid hl4
   go_wp2_with (first
    | ((with_reducible refine wpList_loadG 30 i11 ?_ ?_ _ 32 r32.out Tryd.underlying30 ?_ ?_ ?_); rfl; rfl; rfl; kernel_rfl)
    | ((with_reducible refine wpList_loadMH 30 (h.root.map bv) rr11 ?_ ?_ _ Tryd.underlying30 ?_ ?_ ?_); rfl; rfl; rfl; (rw [hroot.out]; kernel_rfl))
    | ((with_reducible refine wpList_binG (op := .eql) (ty := 30) ?_ ?_ ?_ (EQ.out _ _ w11) ?_); rfl; rfl; rfl))
   all_goals first
    | exact absurd E4.out (by assumption)
    | (go_meet; exact ⟨rfl, rfl⟩)
  ·have hk0 : k = 0 := hK0 (by omega)
   have hc3 : (fb && (decide (F = 0) && (R == h.root))) = false := by rw [← hcode.out]; simpa using Nat.ne_of_gt he
   have e1 : ((e : Int) == 0) = false := by simp; omega
   have e2 : ((e : Int) != 0) = true := by simp; omega
   subst hk0
   obtain rfl : n4 = nn := by omega
   clear hcode hK0
   replace hn4 := Lib.hid hn4
   replace hl4 := Lib.hid hl4
   cases fb
   ·clear hc3
    go_wp2_with fail
    go_meet
    exact ⟨rfl, rfl⟩
   ·by_cases hF : F = 0
    ·subst hF
     have EQ := EQ.out
     rw [show (R == h.root) = false by simpa using hc3] at EQ
     replace EQ := Lib.hid EQ
     clear hc3
     go_wp2_with (first
      | ((with_reducible refine wpList_loadG 30 i11 ?_ ?_ _ 32 r32.out Tryd.underlying30 ?_ ?_ ?_); rfl; rfl; rfl; kernel_rfl)
      | ((with_reducible refine wpList_loadMH 30 (h.root.map bv) rr11 ?_ ?_ _ Tryd.underlying30 ?_ ?_ ?_); rfl; rfl; rfl; (rw [hroot.out]; kernel_rfl))
      | ((with_reducible refine wpList_binG (op := .eql) (ty := 30) ?_ ?_ ?_ (EQ.out _ _ w11) ?_); rfl; rfl; rfl))
     go_meet
     exact ⟨rfl, rfl⟩
    ·have f1 : ((F : Int) == 0) = false := by simp; omega
     clear hc3 hF
     go_wp2_with fail
     go_meet
     exact ⟨rfl, rfl⟩
 case rest =>
  obtain ⟨rfl, hc2⟩ := hcut
  obtain rfl : w11 = _ := hc2.symm
  clear lw11 lv11 rr11 EQ hcode hK0 HX HPl HP HE HF HA HFn HB hfo hxo hDk hroot rone hbt
  go_wp2
  go_loopw [17] (fun iv wr => ∃ i : Nat, i ≤ n4 ∧ iv = .int .i64 (i : Int) ∧ Below w11.heap.size w11 wr) (fun iv _ => n4 - (intOf iv).toNat)
  case atStart => exact ⟨0, by omega, rfl, Below.refl _ _⟩
  case round =>
   obtain ⟨i, hi, rfl, br⟩ := hrel
   have qr := q11.below br
   have ar := a11.below br
   have d2 := qr.cell 2 (.slice A4 n4 c4) rfl
   have d3 := ar.cell 2 (.slice An nn cn) rfl
   by_cases hlt : i < n4
   ·have u2 : decide ((i : Int) < (n4 : Int)) = true := by simp; omega
    obtain ⟨x, hx⟩ : ∃ x, L[i]? = some x := ⟨_, List.getElem?_eq_getElem (by rw [hl4]; exact hlt)⟩
    obtain ⟨b4, o4, rfl⟩ := s11.adr (by rw [hl4]; omega)
    obtain ⟨rx, xok⟩ := (s11.below br).nth i x hx
    have x65 := Lib.hid (snc_length xok)
    have xone := Lib.hid (List.all_eq_true.2 (snc_one x))
    have xk1 := Lib.hid (show (x.id.map bv).length = 32 by rw [List.length_map, xok.1])
    have xk2 := Lib.hid (show (x.blk.map bv).length = 32 by rw [List.length_map, xok.2])
    have xc64 := Lib.hid (snc_pos xok)
    have m0 : 0 ≤ (i : Int) := by omega
    have m1 : (i : Int) < (n4 : Int) := by omega
    replace hx := Lib.hid hx
    go_upto_region 14 with (first
     | ((with_reducible refine wpList_loadMF 58 (snc x) rx ?_ _ Tryd.underlying58 ?_ ?_ ?_); rfl; rfl; (rw [x65.out]; kernel_rfl))
     | ((with_reducible refine wpList_storeF 58 ((Below.refl wr.heap.size wr).alloc (Nat.le_refl _) _) (heap_alloc_new _ _) (Nat.le_refl _) (snc x) ?_ ?_ 65 ?_ ?_ ?_ ?_ ?_); rfl; rfl; exact x65.out; kernel_rfl; (rw [List.size_toArray]; exact hyl.out); exact xone.out; intro w12 a12 b12 k12 z12; clear k12; replace z12 := Lib.hid z12))
    obtain ⟨Gx, hGx⟩ : ∃ G, G = wr.heap.size := ⟨_, rfl⟩
    rw [← hGx] at a12 ⊢
    have B12 := br.trans (b12.mono br.size)
    have d3' := (ar.below b12).cell 2 (.slice An nn cn) rfl
    clear qr d2 d3 rx
    replace hGx := Lib.hid hGx
    by_cases hin : i < nn
    ·have u3 : decide ((i : Int) < (nn : Int)) = true := by simp; omega
     have hy : N[i]? = some x := by
      have := hx.out
      rw [hL.out, List.getElem?_append_left (by rw [hN.out]; exact hin)] at this
      exact this
     obtain ⟨b5, o5, rfl⟩ := N11.adr (by rw [hN.out]; omega)
     obtain ⟨ry, _⟩ := (N11.below B12).nth i x hy
     have m2 : (i : Int) < (nn : Int) := by omega
     have EN := fun p q w => neqHg x.id x.id xok.1 xok.1 p q w
     have EM := fun p q w => neqHg x.blk x.blk xok.2 xok.2 p q w
     simp only [beq_self_eq_true, Bool.not_true] at EN EM
     replace EN := Lib.hid EN
     replace EM := Lib.hid EM
     replace hy := Lib.hid hy
     go_upto_region 16 with (first
      | ((with_reducible refine wpList_loadMF 59 (snc x) ry ?_ _ Tryd.underlying59 ?_ ?_ ?_); rfl; rfl; (rw [x65.out]; kernel_rfl))
      | ((with_reducible refine wpList_storeF 59 ((Below.refl w12.heap.size w12).alloc (Nat.le_refl _) _) (heap_alloc_new _ _) (Nat.le_refl _) (snc x) ?_ ?_ 65 ?_ ?_ ?_ ?_ ?_); rfl; rfl; exact x65.out; kernel_rfl; (rw [List.size_toArray]; exact hyl.out); exact xone.out; intro w13 a13 b13 k13 z13; clear k13; replace z13 := Lib.hid z13))
     obtain ⟨Gy, hGy⟩ : ∃ G, G = w12.heap.size := ⟨_, rfl⟩
     rw [← hGy] at a13 ⊢
     have a12' := a12.below b13
     have ri : w13.rangeAt Gx 0 (x.id.map bv) := rg_sn_id a12'.range0
     have rb : w13.rangeAt Gx 32 (x.blk.map bv) := by have := rg_sn_blk xok a12'.range0; rwa [Nat.zero_add] at this
     have cp := a12'.cell 64 _ xc64.out
     have ri2 : w13.rangeAt Gy 0 (x.id.map bv) := rg_sn_id a13.range0
     have rb2 : w13.rangeAt Gy 32 (x.blk.map bv) := by have := rg_sn_blk xok a13.range0; rwa [Nat.zero_add] at this
     have cp2 := a13.cell 64 _ xc64.out
     have B13 := B12.trans (b13.mono B12.size)
     replace hGy := Lib.hid hGy
     clear d3' ry
     go_wp2_with (first
      | ((with_reducible refine wpList_loadMH 30 (x.id.map bv) ri ?_ ?_ _ Tryd.underlying30 ?_ ?_ ?_); rfl; rfl; rfl; (rw [xk1.out]; kernel_rfl))
      | ((with_reducible refine wpList_loadMH 30 (x.id.map bv) ri2 ?_ ?_ _ Tryd.underlying30 ?_ ?_ ?_); rfl; rfl; rfl; (rw [xk1.out]; kernel_rfl))
      | ((with_reducible refine wpList_loadMH 30 (x.blk.map bv) rb ?_ ?_ _ Tryd.underlying30 ?_ ?_ ?_); rfl; rfl; rfl; (rw [xk2.out]; kernel_rfl))
      | ((with_reducible refine wpList_loadMH 30 (x.blk.map bv) rb2 ?_ ?_ _ Tryd.underlying30 ?_ ?_ ?_); rfl; rfl; rfl; (rw [xk2.out]; kernel_rfl))
      | ((with_reducible refine wpList_binG (op := .neq) (ty := 30) ?_ ?_ ?_ (EN.out _ _ w13) ?_); rfl; rfl; rfl)
      | ((with_reducible refine wpList_binG (op := .neq) (ty := 30) ?_ ?_ ?_ (EM.out _ _ w13) ?_); rfl; rfl; rfl))
     refine ⟨⟨i + 1, by omega, by go_num, B13⟩, ?_⟩
     simp only [intOf]
     omega
    ·have u3 : decide ((i : Int) < (nn : Int)) = false := by simp; omega
     have hxD : x ∈ D := by
      have := hx.out
      rw [hL.out, List.getElem?_append_right (by rw [hN.out]; omega)] at this
      exact List.mem_of_getElem? this
     have hc := hCm.out x hxD
     have hfa := mFnd_all hc
     have hwa := mWat_all hc.2.1
     rw [← hMl0.out] at hfa
     rw [hT.out] at hwa
     have I32v := Lib.hid (show (I.map bv).length = 32 by rw [List.length_map, I32.out])
     have CI : ∀ w', Below w12.heap.size w12 w' → w'.rangeAt Gx 0 (x.id.map bv) := fun w' b => rg_sn_id (a12.below b).range0
     have CB : ∀ w', Below w12.heap.size w12 w' → w'.rangeAt Gx 32 (I.map bv) := fun w' b => by have := rg_sn_blk xok (a12.below b).range0; rwa [Nat.zero_add, hc.1] at this
     have CX : ∀ w', Below w12.heap.size w12 w' → w'.cell? ⟨Gx, 64, none⟩ = some (.int .i64 x.pos) := fun w' b => (a12.below b).cell 64 _ xc64.out
     have CH : ∀ w', Below w12.heap.size w12 w' → w'.rangeAt (H + 1) 0 (hdc h) := fun w' b => blc_head ((x11.below B12).below b)
     have CTab : ∀ w', Below w12.heap.size w12 w' → Tabs w' := fun w' b => (t11.below B12).below b
     have EB := fun p q w => neqHg I I I32.out I32.out p q w
     simp only [beq_self_eq_true, Bool.not_true] at EB
     replace hc := Lib.hid hc
     replace hfa := Lib.hid hfa
     replace hwa := Lib.hid hwa
     replace CI := Lib.hid CI
     replace CB := Lib.hid CB
     replace CX := Lib.hid CX
     replace CH := Lib.hid CH
     replace CTab := Lib.hid CTab
     replace EB := Lib.hid EB
     go_wp2
     go_loopw [20, 21] (fun fv kv wr => ∃ (j : Nat) (Fv : Bool), j ≤ Ml ∧ fv = .bool Fv ∧ kv = .int .i64 (j : Int) ∧ Hid (Fv = mFnd M x j) ∧ Below w12.heap.size w12 wr) (fun _ kv _ => Ml - (intOf kv).toNat)
     case atStart => exact ⟨0, false, by omega, rfl, rfl, Lib.hid rfl, Below.refl _ _⟩
     case round =>
      clear d3' br
      obtain ⟨j, Fv, hj, rfl, rfl, hF, br⟩ := hrel
      by_cases hlt2 : j < Ml
      ·have u4 : decide ((j : Int) < (Ml : Int)) = true := by simp; omega
       have n0 : 0 ≤ (j : Int) := by omega
       have n1 : (j : Int) < (Ml : Int) := by omega
       obtain ⟨⟨q, z⟩, hp⟩ : ∃ p, M[j]? = some p := ⟨_, List.getElem?_eq_getElem (by rw [← hMl0.out]; exact hlt2)⟩
       obtain ⟨b8, o8, rfl⟩ := m11.someA (by intro e; have := mlc_len M32; rw [e] at this; have h0 := hMl0.out; simp at this; omega)
       have z32' : z.length = 32 := M32 (q, z) (List.mem_of_getElem? hp)
       have z32 := Lib.hid (show (z.map bv).length = 32 by rw [List.length_map, z32'])
       have rp : ∀ w', Below w12.heap.size w12 w' → w'.rangeAt b8 (o8 + j * 33) (mtc (q, z)) := fun w' b => Rd.piece mtc 33 M (fun e he => mtc_len (M32 e he)) ((m11.below B12).below b) j (q, z) hp
       have C1 : ∀ w', Below w12.heap.size w12 w' → w'.cell? ⟨b8, o8 + j * 33, none⟩ = some (.int .i64 (q : Int)) := fun w' b => rg_mt_pos (rp w' b)
       have C2 : ∀ w', Below w12.heap.size w12 w' → w'.rangeAt b8 (o8 + j * 33 + 1) (z.map bv) := fun w' b => rg_mt (rp w' b)
       have hF1 := mFnd_step (s := x) hp
       rw [← hF.out] at hF1
       dsimp only at hF1
       have ED := fun p q w => eqlHg z x.id z32' xok.1 p q w
       obtain ⟨D2, hD2⟩ : ∃ D2, D2 = (z == x.id) := ⟨_, rfl⟩
       rw [← hD2] at ED hF1
       clear rp hp
       replace C1 := Lib.hid C1
       replace C2 := Lib.hid C2
       replace ED := Lib.hid ED
       replace hF1 := Lib.hid hF1
       replace hD2 := Lib.hid hD2
       cases Fv
       ·by_cases hq : (q : Int) = x.pos
        ·have e1 : ((q : Int) == x.pos) = true := by simp [hq]
         replace hq := Lib.hid hq
         go_upto_region 22 with fail
         refine wp_region_rel [] Ext (by kernel_rfl) (by kernel_rfl) (by kernel_rfl) Ext.refl Ext.trans (by intro p hp; cases hp) ?_
         refine ZM ?_
         refine ZM ?_
         refine ZM ?_
         refine ZM ?_
         refine ZP (c := .pointer (some ⟨b8, o8 + j * 33, none⟩)) (fun w _ => by have := n0; have := n1; go_simp; first | done | rfl) ?_
         refine ZP (c := .pointer (some ⟨b8, o8 + j * 33, none⟩)) (fun w _ => by go_simp; first | done | rfl) ?_
         refine ZP (c := .int .i64 (q : Int)) (fun w hw => by have := C1.out _ (br.trans (hw.drew.mono br.size)); go_simp; first | done | rfl) ?_
         refine ZP (c := .pointer (some ⟨Gx, 64, none⟩)) (fun w _ => by go_simp; first | done | rfl) ?_
         refine ZP (c := .int .i64 x.pos) (fun w hw => by have := CX.out _ (br.trans (hw.drew.mono br.size)); go_simp; first | done | rfl) ?_
         refine ZP (c := .bool true) (fun w _ => by go_simp; first | done | rfl) ?_
         refine ZM ?_
         refine ZM ?_
         refine ZM ?_
         refine ZP (c := .pointer (some ⟨b8, o8 + j * 33, none⟩)) (fun w _ => by have := n0; have := n1; go_simp; first | done | rfl) ?_
         refine ZP (c := .pointer (some ⟨b8, o8 + j * 33 + 1, none⟩)) (fun w _ => by go_simp; first | done | rfl) ?_
         refine ZP (c := .agg (z.map bv).toArray) (fun w hw => exec_load_mid _ _ rfl b8 (o8 + j * 33 + 1) rfl (z.map bv) _ (C2.out _ (br.trans (hw.drew.mono br.size))) Tryd.underlying30 rfl (by rw [z32.out]; kernel_rfl)) ?_
         refine ZP (c := .pointer (some ⟨Gx, 0, none⟩)) (fun w _ => by go_simp; first | done | rfl) ?_
         refine ZP (c := .agg (x.id.map bv).toArray) (fun w hw => exec_load_mid _ _ rfl Gx (0) rfl (x.id.map bv) _ (CI.out _ (br.trans (hw.drew.mono br.size))) Tryd.underlying30 rfl (by rw [xk1.out]; kernel_rfl)) ?_
         refine relBin Ext.refl rfl rfl rfl rfl _ _ _ _ _ rfl (by conv => lhs; whnf) (by conv => lhs; whnf) (c := .bool D2) (fun w => ED.out _ _ w) (by simp only [Zs]; rfl) ?_
         refine ZK ?_
         refine ZK ?_
         refine ZM ?_
         refine relEnd fun w13 hw13 => fill_end ?_
         have bw13 := br.trans (hw13.drew.mono br.size)
         go_wp2
         refine ⟨⟨j + 1, D2, by omega, rfl, by go_num, Lib.hid (by rw [hF1.out]; simp [hq.out]), bw13⟩, ?_⟩
         simp only [intOf]
         omega
        ·have e1 : ((q : Int) == x.pos) = false := by simp [hq]
         replace hq := Lib.hid hq
         go_upto_region 22 with fail
         refine wp_region_rel [] Ext (by kernel_rfl) (by kernel_rfl) (by kernel_rfl) Ext.refl Ext.trans (by intro p hp; cases hp) ?_
         refine ZM ?_
         refine ZM ?_
         refine ZM ?_
         refine ZM ?_
         refine ZP (c := .pointer (some ⟨b8, o8 + j * 33, none⟩)) (fun w _ => by have := n0; have := n1; go_simp; first | done | rfl) ?_
         refine ZP (c := .pointer (some ⟨b8, o8 + j * 33, none⟩)) (fun w _ => by go_simp; first | done | rfl) ?_
         refine ZP (c := .int .i64 (q : Int)) (fun w hw => by have := C1.out _ (br.trans (hw.drew.mono br.size)); go_simp; first | done | rfl) ?_
         refine ZP (c := .pointer (some ⟨Gx, 64, none⟩)) (fun w _ => by go_simp; first | done | rfl) ?_
         refine ZP (c := .int .i64 x.pos) (fun w hw => by have := CX.out _ (br.trans (hw.drew.mono br.size)); go_simp; first | done | rfl) ?_
         refine ZP (c := .bool false) (fun w _ => by go_simp; first | done | rfl) ?_
         refine ZM ?_
         refine ZS ?_
         refine ZS ?_
         refine ZS ?_
         refine ZS ?_
         refine ZS ?_
         refine ZS ?_
         refine ZS ?_
         refine ZS ?_
         refine ZK ?_
         refine ZK ?_
         refine ZM ?_
         refine relEnd fun w13 hw13 => fill_end ?_
         have bw13 := br.trans (hw13.drew.mono br.size)
         go_wp2
         refine ⟨⟨j + 1, false, by omega, rfl, by go_num, Lib.hid (by rw [hF1.out]; simp [hq.out]), bw13⟩, ?_⟩
         simp only [intOf]
         omega
       ·go_upto_region 22 with fail
        refine wp_region_rel [] Ext (by kernel_rfl) (by kernel_rfl) (by kernel_rfl) Ext.refl Ext.trans (by intro p hp; cases hp) ?_
        refine ZM ?_
        refine ZM ?_
        refine ZS ?_
        refine ZS ?_
        refine ZS ?_
        refine ZS ?_
        refine ZS ?_
        refine ZS ?_
        refine ZS ?_
        refine ZS ?_
        refine ZS ?_
        refine relSkipU rfl rfl (by kernel_rfl) rfl (by simp only [Zs]; rfl) ?_
        refine relSkipU rfl rfl (by kernel_rfl) rfl (by simp only [Zs]; rfl) ?_
        refine relSkipU rfl rfl (by kernel_rfl) rfl (by simp only [Zs]; rfl) ?_
        refine relSkipU rfl rfl (by kernel_rfl) rfl (by simp only [Zs]; rfl) ?_
        refine relSkipU rfl rfl (by kernel_rfl) rfl (by simp only [Zs]; rfl) ?_
        refine relSkipU rfl rfl (by kernel_rfl) rfl (by simp only [Zs]; rfl) ?_
        refine relSkipU rfl rfl (by kernel_rfl) rfl (by simp only [Zs]; rfl) ?_
        refine relSkipU rfl rfl (by kernel_rfl) rfl (by simp only [Zs]; rfl) ?_
        refine ZS ?_
        refine ZK ?_
        refine ZM ?_
        refine relEnd fun w13 hw13 => fill_end ?_
        have bw13 := br.trans (hw13.drew.mono br.size)
        go_wp2
        refine ⟨⟨j + 1, true, by omega, rfl, by go_num, Lib.hid (by rw [hF1.out]; simp), bw13⟩, ?_⟩
        simp only [intOf]
        omega
      ·obtain rfl : j = Ml := by omega
       have u4 : decide ((j : Int) < (j : Int)) = false := by simp
       obtain rfl : Fv = true := by rw [hF.out]; exact hfa.out
       obtain ⟨w13, hw13⟩ : ∃ w13 : World, w13 = wr := ⟨_, rfl⟩
       subst hw13
       have b13 := br
       clear br
       have CT : ∀ w', Below w12.heap.size w12 w' → w'.cell? ⟨H, 1, none⟩ = some (.slice At nt ct) := fun w' b => ((a11.below B12).below b).cell 1 _ rfl
       have ct13 := CT w13 b13
       replace CT := Lib.hid CT
       go_wp2
       clear ct13
       go_loopw [22, 23] (fun fv kv wr => ∃ (j : Nat) (Fv : Bool), j ≤ nt ∧ fv = .bool Fv ∧ kv = .int .i64 (j : Int) ∧ Hid (Fv = mWat T x.id j) ∧ Below w12.heap.size w12 wr) (fun _ kv _ => nt - (intOf kv).toNat)
       case atStart => exact ⟨0, false, by omega, rfl, rfl, Lib.hid rfl, b13⟩
       case round =>
        clear u4 hj
        obtain ⟨j, Fv, hj, rfl, rfl, hF, br⟩ := hrel
        have ctr := CT.out _ br
        by_cases hlt3 : j < nt
        ·have u4 : decide ((j : Int) < (nt : Int)) = true := by simp; omega
         have n0 : 0 ≤ (j : Int) := by omega
         have n1 : (j : Int) < (nt : Int) := by omega
         obtain ⟨z, hp⟩ : ∃ z, T[j]? = some z := ⟨_, List.getElem?_eq_getElem (by rw [hT.out]; exact hlt3)⟩
         obtain ⟨bT, oT, rfl⟩ := T11.adr (by rw [hT.out]; omega)
         have z32' : z.length = 32 := T11.2 z (List.mem_of_getElem? hp)
         have z32 := Lib.hid (show (z.map bv).length = 32 by rw [List.length_map, z32'])
         have C2 : ∀ w', Below w12.heap.size w12 w' → w'.rangeAt bT (oT + j * 32) (z.map bv) := fun w' b => ((T11.below B12).below b).nth j z hp
         have hF1 := mWat_step (x := x.id) hp
         rw [← hF.out] at hF1
         have ED := fun p q w => eqlHg z x.id z32' xok.1 p q w
         obtain ⟨D2, hD2⟩ : ∃ D2, D2 = (z == x.id) := ⟨_, rfl⟩
         rw [← hD2] at ED hF1
         clear hp
         replace C2 := Lib.hid C2
         replace ED := Lib.hid ED
         replace hF1 := Lib.hid hF1
         replace hD2 := Lib.hid hD2
         cases Fv
         ·go_upto_region 27 with fail
          refine wp_region_rel [] Ext (by kernel_rfl) (by kernel_rfl) (by kernel_rfl) Ext.refl Ext.trans (by intro p hp; cases hp) ?_
          refine ZM ?_
          refine ZM ?_
          refine ZP (c := .pointer (some ⟨H, 1, none⟩)) (fun w _ => by go_simp; first | done | rfl) ?_
          refine ZP (c := .slice (some ⟨bT, oT, none⟩) nt ct) (fun w hw => by have := CT.out _ (br.trans (hw.drew.mono br.size)); go_simp; first | done | rfl) ?_
          refine ZM ?_
          refine ZP (c := .pointer (some ⟨bT, oT + j * 32, none⟩)) (fun w _ => by have := n0; have := n1; go_simp; first | done | rfl) ?_
          refine ZP (c := .agg (z.map bv).toArray) (fun w hw => exec_load_mid _ _ rfl bT (oT + j * 32) rfl (z.map bv) _ (C2.out _ (br.trans (hw.drew.mono br.size))) Tryd.underlying30 rfl (by rw [z32.out]; kernel_rfl)) ?_
          refine ZP (c := .pointer (some ⟨Gx, 0, none⟩)) (fun w _ => by go_simp; first | done | rfl) ?_
          refine ZP (c := .agg (x.id.map bv).toArray) (fun w hw => exec_load_mid _ _ rfl Gx (0) rfl (x.id.map bv) _ (CI.out _ (br.trans (hw.drew.mono br.size))) Tryd.underlying30 rfl (by rw [xk1.out]; kernel_rfl)) ?_
          refine relBin Ext.refl rfl rfl rfl rfl _ _ _ _ _ rfl (by conv => lhs; whnf) (by conv => lhs; whnf) (c := .bool D2) (fun w => ED.out _ _ w) (by simp only [Zs]; rfl) ?_
          refine ZK ?_
          refine ZM ?_
          refine relEnd fun w14 hw14 => fill_end ?_
          have bw14 := br.trans (hw14.drew.mono br.size)
          go_wp2
          refine ⟨⟨j + 1, D2, by omega, rfl, by go_num, Lib.hid (by rw [hF1.out]; simp), bw14⟩, ?_⟩
          simp only [intOf]
          omega
         ·go_upto_region 27 with fail
          refine wp_region_rel [] Ext (by kernel_rfl) (by kernel_rfl) (by kernel_rfl) Ext.refl Ext.trans (by intro p hp; cases hp) ?_
          refine ZM ?_
          refine ZM ?_
          refine ZS ?_
          refine ZS ?_
          refine ZS ?_
          refine ZS ?_
          refine ZS ?_
          refine ZS ?_
          refine ZS ?_
          refine ZS ?_
          refine ZK ?_
          refine ZM ?_
          refine relEnd fun w14 hw14 => fill_end ?_
          have bw14 := br.trans (hw14.drew.mono br.size)
          go_wp2
          refine ⟨⟨j + 1, true, by omega, rfl, by go_num, Lib.hid (by rw [hF1.out]; simp), bw14⟩, ?_⟩
          simp only [intOf]
          omega
        ·obtain rfl : j = nt := by omega
         have u4 : decide ((j : Int) < (j : Int)) = false := by simp
         obtain rfl : Fv = true := by rw [hF.out]; exact hwa.out
         go_upto_region 28 with fail
         refine wp_region_rel [] Ext (by kernel_rfl) (by kernel_rfl) (by kernel_rfl) Ext.refl Ext.trans (by intro p hp; cases hp) ?_
         refine ZM ?_
         refine ZP (c := .bool false) (fun w _ => by go_simp; first | done | rfl) ?_
         refine ZM ?_
         refine ZM ?_
         refine ZP (c := .bool false) (fun w _ => by go_simp; first | done | rfl) ?_
         refine ZK ?_
         refine ZM ?_
         refine ZP (c := .pointer (some ⟨Gx, 32, none⟩)) (fun w _ => by go_simp; first | done | rfl) ?_
         refine ZP (c := .agg (I.map bv).toArray) (fun w hw => exec_load_mid _ _ rfl Gx (32) rfl (I.map bv) _ (CB.out _ (br.trans (hw.drew.mono br.size))) Tryd.underlying30 rfl (by rw [I32v.out]; kernel_rfl)) ?_
         refine ZP (c := .pointer (some ⟨H + 1, 0, none⟩)) (fun w _ => by go_simp; first | done | rfl) ?_
         refine ZP (c := .agg (hdc h).toArray) (fun w hw => exec_load_mid _ _ rfl (H + 1) (0) rfl (hdc h) _ (CH.out _ (br.trans (hw.drew.mono br.size))) Tryd.underlying32 rfl (by rw [h68.out]; kernel_rfl)) ?_
         refine ZC (c := .agg (I.map bv).toArray) 17 #[.agg (hdc h).toArray] (fun w hw => (HI.out w (CTab.out _ (br.trans (hw.drew.mono br.size)))).mono ?_) ?_
         ·rintro e w' ⟨rfl, b⟩
          exact ⟨rfl, b⟩
         refine relBin Ext.refl rfl rfl rfl rfl _ _ _ _ _ rfl (by conv => lhs; whnf) (by conv => lhs; whnf) (c := .bool false) (fun w => EB.out _ _ w) (by simp only [Zs]; rfl) ?_
         refine ZK ?_
         refine relEnd fun w14 hw14 => fill_end ?_
         have b14 := B12.trans ((br.trans (hw14.drew.mono br.size)).mono B12.size)
         go_wp2
         refine ⟨⟨i + 1, by omega, by go_num, b14⟩, ?_⟩
         simp only [intOf]
         omega
   ·obtain rfl : i = n4 := by omega
    have u2 : decide ((i : Int) < (i : Int)) = false := by simp
    go_wp2
    go_ret
    exact ⟨rfl, B11.trans (br.mono B11.size)⟩
theorem law_WatchProves (S : List (List UInt8 × Sl)) (As At An : Option Addr) (ns cs nt ct nn cn : Nat) (hS : S.length = ns) (hns : ns ≤ maxLen) (T : List (List UInt8)) (hT : T.length = nt) (N : List Sn) (hN : N.length = nn)
  (l : List Hd) (B : Option Addr) (m d : Nat) (hm : l.length = m) (h : Hd) (hok : h.ok) (tot : Nat) (htot : tot < 4294967296) (hs : List (List UInt8)) (h32 : All32 hs) (fl : List UInt8) (Ah : Option Addr) (nh ch : Nat) (Af : Option Addr) (nf cf : Nat) (hnh : hs.length = nh) (hnf : fl.length = nf)
  (w : World) (ht : Tabs w) (rS : RdBss w As S) (rT : RdHs w At T) (rN : RdSns w An N) (rl : RdHds w B l) (rh : Rd w Ah (hcl hs)) (rf : Rd w Af (fl.map bv)) :
  Calls Tryd.prog 3 #[.agg (wtc As At An ns cs nt ct nn cn).toArray, .slice B m d, .agg (blc h tot Ah nh ch Af nf cf).toArray] w fun e w' => e = .returned (.bool true) ∧ Below w.heap.size w w' := by
 by_cases hfar : wFew (S.map (·.1)) nt nn = true ∧ m ≤ 20 ∧ nh ≤ 60 ∧ nf ≤ 60
 ·exact wprv_main S As At An ns cs nt ct nn cn hS hns T hT N hN l B m d hm h hok tot htot hs h32 fl Ah nh ch Af nf cf hnh hnf w ht rS rT rN rl rh rf hfar.1 hfar.2.1 hfar.2.2.1 hfar.2.2.2
 ·exact wprv_far S As At An ns cs nt ct nn cn hS hns T hT N hN l B m d hm h hok tot htot hs h32 fl Ah nh ch Af nf cf hnh hnf w ht rS rT rN rl rh rf hfar
end Go.Proofs.YtobjgebojhjhnaaDoor
