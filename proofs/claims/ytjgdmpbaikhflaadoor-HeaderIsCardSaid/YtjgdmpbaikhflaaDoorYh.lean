/- The law HeaderIs: the walk. -/
import Derived.Test.YtjgdmpbaikhflaaDoorPr14
import Derived.Test.YtjgdmpbaikhflaaDoorPr13
import Derived.Test.YtjgdmpbaikhflaaDoorPr15
import Derived.Test.YtjgdmpbaikhflaaDoorYd
import Derived.Test.YtjgdmpbaikhflaaDoorPr20
import Derived.Test.YtjgdmpbaikhflaaDoorYg
namespace Go.Proofs.YtjgdmpbaikhflaaDoor
open Go.RowKit
attribute [local go_sem high] slB_lh slB_l slB_h
theorem eqlPg (x y : List UInt8) (hx : x.length = 32) (hy : y.length = 32) (p q : Operand) (w : World) : (do eqGuard .eql 24 p q (.agg (hcs x)) (.agg (hcs y)); binOp .eql 24 (.agg (hcs x)) (.agg (hcs y)) : Sem Value).run Tryd.prog w = .ok (.bool (x == y)) w := by
  rw [Sem.run_bind, show (eqGuard .eql 24 p q (.agg (hcs x)) (.agg (hcs y))).run Tryd.prog w = .ok () w by go_simp]
  have := eqlP x y hx hy w
  simpa using this
set_option maxRecDepth 10000 in
set_option maxHeartbeats 4000000 in
theorem his_long1 (h : Hd) (lim : Nat) (tries : Int) (A : Option Addr) (n c : Nat) (B : Option Addr) (m d : Nat) (hh : 2000 < n) (w : World) (ht : Tabs w) : Calls Tryd.prog 8 #[.agg (hdc h).toArray, .int .u32 (lim : Int), .int .i64 tries, .slice A n c, .slice B m d] w fun e w' => e = .returned (.bool true) ∧ Below w.heap.size w w' := by
  have t1 : decide ((2000 : Int) < (n : Int)) = true := by simp; omega
  have HA := Lib.hid (fun w' t => awake7 w' t)
  have ht1 := ht.below ((Below.refl w.heap.size w).alloc (Nat.le_refl _) (.cells (hdc h).toArray 26))
  have bW := (Below.refl w.heap.size w).alloc (Nat.le_refl _) (.cells (hdc h).toArray 26)
  have sW : w.heap.size ≤ (w.alloc (.cells (hdc h).toArray 26)).heap.size := bW.size
  go_enter Tryd.func8, Tryd.ntmps8
  go_wp2_with (go_at_call 9; refine (HA.out _ ht1).mono ?_; rintro e w1 ⟨rfl, b1⟩)
  go_ret
  exact ⟨rfl, bW.trans (b1.mono sW)⟩
set_option maxRecDepth 10000 in
set_option maxHeartbeats 4000000 in
theorem his_long2 (h : Hd) (lim : Nat) (tries : Int) (A : Option Addr) (n c : Nat) (B : Option Addr) (m d : Nat) (hh : n ≤ 2000) (hh2 : 20 < m) (w : World) (ht : Tabs w) : Calls Tryd.prog 8 #[.agg (hdc h).toArray, .int .u32 (lim : Int), .int .i64 tries, .slice A n c, .slice B m d] w fun e w' => e = .returned (.bool true) ∧ Below w.heap.size w w' := by
  have t1 : decide ((2000 : Int) < (n : Int)) = false := by simp; omega
  have t2 : decide ((20 : Int) < (m : Int)) = true := by simp; omega
  have HA := Lib.hid (fun w' t => awake7 w' t)
  have ht1 := ht.below ((Below.refl w.heap.size w).alloc (Nat.le_refl _) (.cells (hdc h).toArray 26))
  have bW := (Below.refl w.heap.size w).alloc (Nat.le_refl _) (.cells (hdc h).toArray 26)
  have sW : w.heap.size ≤ (w.alloc (.cells (hdc h).toArray 26)).heap.size := bW.size
  go_enter Tryd.func8, Tryd.ntmps8
  go_wp2_with (go_at_call 9; refine (HA.out _ ht1).mono ?_; rintro e w1 ⟨rfl, b1⟩)
  go_ret
  exact ⟨rfl, bW.trans (b1.mono sW)⟩
set_option maxRecDepth 10000 in
set_option maxHeartbeats 4000000 in
theorem his_long3 (h : Hd) (lim : Nat) (tries : Int) (A : Option Addr) (n c : Nat) (B : Option Addr) (m d : Nat) (hh : n ≤ 2000) (hh2 : m ≤ 20) (hh3 : 60 < tries) (w : World) (ht : Tabs w) : Calls Tryd.prog 8 #[.agg (hdc h).toArray, .int .u32 (lim : Int), .int .i64 tries, .slice A n c, .slice B m d] w fun e w' => e = .returned (.bool true) ∧ Below w.heap.size w w' := by
  have t1 : decide ((2000 : Int) < (n : Int)) = false := by simp; omega
  have t2 : decide ((20 : Int) < (m : Int)) = false := by simp; omega
  have t3 : decide ((60 : Int) < tries) = true := by simp; omega
  have HA := Lib.hid (fun w' t => awake7 w' t)
  have ht1 := ht.below ((Below.refl w.heap.size w).alloc (Nat.le_refl _) (.cells (hdc h).toArray 26))
  have bW := (Below.refl w.heap.size w).alloc (Nat.le_refl _) (.cells (hdc h).toArray 26)
  have sW : w.heap.size ≤ (w.alloc (.cells (hdc h).toArray 26)).heap.size := bW.size
  go_enter Tryd.func8, Tryd.ntmps8
  go_wp2_with (go_at_call 9; refine (HA.out _ ht1).mono ?_; rintro e w1 ⟨rfl, b1⟩)
  go_ret
  exact ⟨rfl, bW.trans (b1.mono sW)⟩
set_option maxRecDepth 10000 in
set_option maxHeartbeats 8000000 in
theorem his_main (h : Hd) (hok : h.ok) (lim : Nat) (hlim : lim < 4294967296) (tries : Int) (bs : List UInt8) (A : Option Addr) (n c : Nat) (hn : bs.length = n) (hc : n ≤ c) (l : List Hd) (B : Option Addr) (m d : Nat) (hm : l.length = m) (hh : n ≤ 2000) (hh2 : m ≤ 20) (hh3 : tries ≤ 60) (w : World) (ht : Tabs w) (hr : Rd w A (bs.map bv)) (hl : RdHds w B l) : Calls Tryd.prog 8 #[.agg (hdc h).toArray, .int .u32 (lim : Int), .int .i64 tries, .slice A n c, .slice B m d] w fun e w' => e = .returned (.bool true) ∧ Below w.heap.size w w' := by
  have t1 : decide ((2000 : Int) < (n : Int)) = false := by simp; omega
  have t2 : decide ((20 : Int) < (m : Int)) = false := by simp; omega
  have t3 : decide ((60 : Int) < tries) = false := by simp; omega
  have HA := Lib.hid (fun w' t => awake7 w' t)
  obtain ⟨k, hk⟩ : ∃ k, k = (min (max tries 0) 4096).toNat := ⟨_, rfl⟩
  obtain ⟨X, E, hX⟩ : ∃ X E, hdGet bs = (X, E) := ⟨_, _, rfl⟩
  obtain ⟨Y, R, hY⟩ : ∃ Y R, mMine h lim k = (Y, R) := ⟨_, _, rfl⟩
  obtain ⟨G, I, hG⟩ : ∃ G I, hdGets bs = (G, I) := ⟨_, _, rfl⟩
  obtain ⟨V, hV⟩ : ∃ V, V = hdAll l := ⟨_, rfl⟩
  obtain ⟨J, hJ⟩ : ∃ J, J = mLinked l := ⟨_, rfl⟩
  obtain ⟨K, hK⟩ : ∃ K, K = hdId h := ⟨_, rfl⟩
  obtain ⟨U, hU⟩ : ∃ U, U = hdB h := ⟨_, rfl⟩
  have HG := fun w' r => HdGet bs A n c hn hc w' r
  have HG' := fun w' r => RGet7 bs A n c hn hc w' r
  have HM := fun w' t => HdMine h hok lim hlim tries k hk w' t
  have HM' := fun w' => RMine7 h hok lim hlim tries k hk w'
  have HP := fun w' r => HdPutAll l B m d hm (by omega) w' r
  have HP' := fun w' r => RPutAll7 l B m d hm (by omega) w' r
  have HL := fun w' r => HdGetAll bs A n c hn hc (by omega) w' r
  have HL' := fun w' r => RGetAll7 bs A n c hn hc (by omega) w' r
  have HU := fun w' => HdPut h hok w'
  have HU' := fun w' => RPut7 h hok w'
  have HI := fun w' t => HdId h hok w' t
  have HI' := fun w' => RId7 h hok w'
  have HJ := fun w' r t => HdLinked l B m d hm (by omega) w' r t
  have HJ' := fun w' r => RLinked7 l B m d hm (by omega) w' r
  have hbad := hdGets_bad bs
  have hone := hdGets_once bs
  rw [hX] at HG HG'
  rw [hY] at HM HM'
  rw [hG] at HL HL' hbad hone
  rw [← hV] at HP HP'
  rw [← hK] at HI HI'
  rw [← hU] at HU HU'
  rw [← hJ] at HJ HJ'
  dsimp only at HG HG' HM HM' HL HL' hbad hone
  have hGl : G.length ≤ 2000 := by
    by_cases hI : I = 0
    · exact (hone hI).2.2
    · rw [hbad hI]; exact Nat.zero_le _
  have Xok : X.ok := by
    have e : X = (hdGet bs).1 := by rw [hX]
    rw [e]
    unfold hdGet
    by_cases h1 : bs.length < 80
    · rw [if_pos h1]; exact zeroHd_ok
    · rw [if_neg h1]
      by_cases h2 : 80 < bs.length
      · rw [if_pos h2]; exact zeroHd_ok
      · rw [if_neg h2]; exact hdOf_ok (by omega)
  have Yok : Y.ok := by
    have := mMine_ok hok lim k
    rw [hY] at this
    exact this
  have NX := eqlHdg Xok Xok
  have NY := eqlHdg Yok Yok
  have NK := eqlPg K K (by rw [hK]; exact hdId_length h) (by rw [hK]; exact hdId_length h)
  rw [decide_eq_true rfl] at NX NY
  rw [beq_self_eq_true] at NK
  have hU80 : 80 = U.length := by rw [hU, hdB_length hok]
  have x68 := Lib.hid (hdc_length Xok)
  have xone := Lib.hid (List.all_eq_true.2 (hdc_one X))
  have y68 := Lib.hid (hdc_length Yok)
  have yone := Lib.hid (List.all_eq_true.2 (hdc_one Y))
  have h68 := Lib.hid (hdc_length hok)
  have hz := zeros_68
  obtain ⟨zs, hzs⟩ : ∃ zs : List Value, zs = hdc zeroHd := ⟨_, rfl⟩
  have hzl : zs.length = 68 := by rw [hzs]; rfl
  rw [show hdc ⟨0, List.replicate 32 0, List.replicate 32 0, 0, 0, 0⟩ = zs from hzs.symm] at hz
  clear hzs hbad hone
  obtain ⟨W, hW⟩ : ∃ W, W = w.alloc (.cells (hdc h).toArray 26) := ⟨_, rfl⟩
  obtain ⟨H, hH⟩ : ∃ H, H = w.heap.size := ⟨_, rfl⟩
  have bW : Below w.heap.size w W := by rw [hW]; exact (Below.refl _ _).alloc (Nat.le_refl _) _
  have aW : Av W H 26 (hdc h) := by rw [hW, hH]; exact heap_alloc_new _ _
  have hrW := hr.below bW
  have hlW := hl.below bW
  have htW := ht.below bW
  replace hX := Lib.hid hX
  replace hY := Lib.hid hY
  replace hG := Lib.hid hG
  replace hV := Lib.hid hV
  replace hJ := Lib.hid hJ
  replace hK := Lib.hid hK
  replace hU := Lib.hid hU
  replace hk := Lib.hid hk
  replace HG := Lib.hid HG
  replace HM := Lib.hid HM
  replace HP := Lib.hid HP
  replace HL := Lib.hid HL
  replace HU := Lib.hid HU
  replace HI := Lib.hid HI
  replace HJ := Lib.hid HJ
  replace NX := Lib.hid NX
  replace NY := Lib.hid NY
  replace NK := Lib.hid NK
  replace hU80 := Lib.hid hU80
  replace hW := Lib.hid hW
  replace hH := Lib.hid hH
  replace hzl := Lib.hid hzl
  replace hn := Lib.hid hn
  replace hm := Lib.hid hm
  replace hGl := Lib.hid hGl
  replace HG' := Lib.hid HG'
  replace HM' := Lib.hid HM'
  replace HP' := Lib.hid HP'
  replace HL' := Lib.hid HL'
  replace HU' := Lib.hid HU'
  replace HI' := Lib.hid HI'
  replace HJ' := Lib.hid HJ'
  go_enter Tryd.func8, Tryd.ntmps8
  go_upto_region 1 with fail
  rw [← hW.out, ← hH.out]
  go_upto_region 4 with (go_at_call 9; refine (HA.out W htW).mono ?_; rintro e w1 ⟨rfl, b1⟩)
  clear HA
  have B1 : Below W.heap.size W w1 := b1
  go_upto_region 5 with (first
    | (go_at_call 15; refine (HG.out w1 (hrW.below B1)).mono ?_; rintro e w2 ⟨rfl, b2⟩)
    | ((with_reducible refine wpList_storeF 26 ((Below.refl w2.heap.size w2).alloc (Nat.le_refl _) _) (heap_alloc_new _ _) (Nat.le_refl _) (hdc X) ?_ ?_ 68 x68.out ?_ ?_ ?_ ?_); rfl; rfl; kernel_rfl; (rw [List.size_toArray]; exact hzl.out); exact xone.out; intro w3 ax1 b3 z3; clear z3; intro z3; replace z3 := Lib.hid z3))
  obtain ⟨gx1, hgx1⟩ : ∃ g, g = w2.heap.size := ⟨_, rfl⟩
  rw [← hgx1] at ax1 ⊢
  replace hgx1 := Lib.hid hgx1
  have B3 := B1.trans ((b2.trans (b3.mono b2.size)).mono B1.size)
  go_upto_region 6 with (first
    | (go_at_call 20; refine (HG'.out w3 (hrW.below B3)).mono ?_; rintro e w4 ⟨rfl, b4⟩)
    | ((with_reducible refine wpList_storeF 26 ((Below.refl w4.heap.size w4).alloc (Nat.le_refl _) _) (heap_alloc_new _ _) (Nat.le_refl _) (hdc X) ?_ ?_ 68 x68.out ?_ ?_ ?_ ?_); rfl; rfl; kernel_rfl; (rw [List.size_toArray]; exact hzl.out); exact xone.out; intro w5 ax2 b5 z5; clear z5; intro z5; replace z5 := Lib.hid z5))
  obtain ⟨gx2, hgx2⟩ : ∃ g, g = w4.heap.size := ⟨_, rfl⟩
  rw [← hgx2] at ax2 ⊢
  replace hgx2 := Lib.hid hgx2
  have B5 := B3.trans ((b4.trans (b5.mono b4.size)).mono B3.size)
  replace ax1 := ax1.below (b4.trans (b5.mono b4.size))
  go_upto_region 7 with (first
    | ((with_reducible refine wpList_loadF 26 (aW.below B5) ?_ _ 68 h68.out Tryd.underlying26 ?_ ?_ ?_); rfl; rfl; kernel_rfl)
    | (go_at_call 10; refine (HM.out w5 (htW.below B5)).mono ?_; rintro e w6 ⟨rfl, b6⟩)
    | ((with_reducible refine wpList_storeF 26 ((Below.refl w6.heap.size w6).alloc (Nat.le_refl _) _) (heap_alloc_new _ _) (Nat.le_refl _) (hdc Y) ?_ ?_ 68 y68.out ?_ ?_ ?_ ?_); rfl; rfl; kernel_rfl; (rw [List.size_toArray]; exact hzl.out); exact yone.out; intro w7 amine1 b7 z7; clear z7; intro z7; replace z7 := Lib.hid z7))
  obtain ⟨gmine1, hgmine1⟩ : ∃ g, g = w6.heap.size := ⟨_, rfl⟩
  rw [← hgmine1] at amine1 ⊢
  replace hgmine1 := Lib.hid hgmine1
  have B7 := B5.trans ((b6.trans (b7.mono b6.size)).mono B5.size)
  replace ax1 := ax1.below (b6.trans (b7.mono b6.size))
  replace ax2 := ax2.below (b6.trans (b7.mono b6.size))
  go_upto_region 8 with (first
    | ((with_reducible refine wpList_loadF 26 (aW.below B7) ?_ _ 68 h68.out Tryd.underlying26 ?_ ?_ ?_); rfl; rfl; kernel_rfl)
    | (go_at_call 21; refine (HM'.out w7).mono ?_; rintro e w8 ⟨rfl, b8⟩)
    | ((with_reducible refine wpList_storeF 26 ((Below.refl w8.heap.size w8).alloc (Nat.le_refl _) _) (heap_alloc_new _ _) (Nat.le_refl _) (hdc Y) ?_ ?_ 68 y68.out ?_ ?_ ?_ ?_); rfl; rfl; kernel_rfl; (rw [List.size_toArray]; exact hzl.out); exact yone.out; intro w9 amine2 b9 z9; clear z9; intro z9; replace z9 := Lib.hid z9))
  obtain ⟨gmine2, hgmine2⟩ : ∃ g, g = w8.heap.size := ⟨_, rfl⟩
  rw [← hgmine2] at amine2 ⊢
  replace hgmine2 := Lib.hid hgmine2
  have B9 := B7.trans ((b8.trans (b9.mono b8.size)).mono B7.size)
  replace ax1 := ax1.below (b8.trans (b9.mono b8.size))
  replace ax2 := ax2.below (b8.trans (b9.mono b8.size))
  replace amine1 := amine1.below (b8.trans (b9.mono b8.size))
  go_upto_region 9 with (go_at_call 17; refine (HP.out w9 (hlW.below B9)).mono ?_; rintro e w10 ⟨v10, rfl, o10, b10⟩; obtain ⟨A10, c10, rfl, hc10, hm10⟩ := o10.form)
  have B10 := B9.trans (b10.mono B9.size)
  have r10 := o10.rd
  clear o10
  replace ax1 := ax1.below b10
  replace ax2 := ax2.below b10
  replace amine1 := amine1.below b10
  replace amine2 := amine2.below b10
  go_upto_region 10 with (go_at_call 22; refine (HP'.out w10 (hlW.below B10)).mono ?_; rintro e w11 ⟨v11, rfl, o11, b11⟩; obtain ⟨A11, c11, rfl, hc11, hm11⟩ := o11.form)
  have B11 := B10.trans (b11.mono B10.size)
  have r11 := o11.rd
  clear o11
  replace r10 := r10.below b11
  replace ax1 := ax1.below b11
  replace ax2 := ax2.below b11
  replace amine1 := amine1.below b11
  replace amine2 := amine2.below b11
  go_upto_region 11 with (go_at_call 18; refine (HL.out w11 (hrW.below B11)).mono ?_; rintro e w12 ⟨B12, m12, d12, rfl, hm12, hd12, q12, b12⟩)
  have B12' := B11.trans (b12.mono B11.size)
  replace r10 := r10.below b12
  replace r11 := r11.below b12
  replace ax1 := ax1.below b12
  replace ax2 := ax2.below b12
  replace amine1 := amine1.below b12
  replace amine2 := amine2.below b12
  replace hm12 := Lib.hid hm12
  go_upto_region 12 with (go_at_call 23; refine (HL'.out w12 (hrW.below B12')).mono ?_; rintro e w13 ⟨B13, m13, d13, rfl, hm13, hd13, q13, b13⟩)
  have B13' := B12'.trans (b13.mono B12'.size)
  replace r10 := r10.below b13
  replace r11 := r11.below b13
  replace q12 := q12.below b13
  replace ax1 := ax1.below b13
  replace ax2 := ax2.below b13
  replace amine1 := amine1.below b13
  replace amine2 := amine2.below b13
  replace hm13 := Lib.hid hm13
  have aH := aW.below B13'
  have ht13 := htW.below B13'
  have hl13 := hlW.below B13'
  have b13' := bW.trans (B13'.mono bW.size)
  have HS := Lib.hid (fun w' ra rb => SameHd G G B12 B13 m12 m13 d12 d13 hm12.out hm13.out (by have := hGl.out; have := hm12.out; omega) (by have := hGl.out; have := hm13.out; omega) w' ra rb)
  rw [decide_eq_true rfl] at HS
  clear B1 B3 B5 B7 B9 B10 B11 B12' b1 b2 b3 b4 b5 b6 b7 b8 b9 b10 b11 b12 b13
  refine wp_region_rel [(3, SlW U), (6, SlW U)] Ext (by kernel_rfl) (by kernel_rfl) (by kernel_rfl) Ext.refl Ext.trans (by intro p hp v w w' hR; simp only [List.mem_cons, List.not_mem_nil, or_false] at hp; rcases hp with rfl | rfl <;> exact SlW.mono hR) ?_
  refine relMove Ext.refl rfl rfl rfl rfl _ (.inl rfl) (by conv => lhs; whnf) (by simp only [List.set_cons_succ, List.set_cons_zero]; rfl) ?_
  refine relMove Ext.refl rfl rfl rfl rfl _ (.inl rfl) (by conv => lhs; whnf) (by simp only [List.set_cons_succ, List.set_cons_zero]; rfl) ?_
  refine relPure Ext.refl rfl rfl rfl rfl (c := .agg (hdc h).toArray) (fun w hw => exec_loadAv (aH.below hw.drew) _ _ rfl rfl _ 68 h68.out Tryd.underlying26 rfl (by kernel_rfl)) (by simp only [List.set_cons_succ, List.set_cons_zero]; rfl) ?_
  refine relCall _ rfl rfl rfl 14 #[.agg (hdc h).toArray] (fun w => by go_simp) (fun w hw => (HU.out w).mono (by rintro e w' ⟨A', rfl, rr, hb⟩; exact ⟨_, rfl, hb, some A', 80, by rw [← hU80.out], rr⟩)) ?_
  refine relOn (c := .string ⟨U.toArray⟩) rfl rfl (fun w hw => fill_take rfl rfl fun v hv => fill_skip rfl (fill_end (relOp_yes rfl (str_word hv _ rfl (by rw [eval_evL]; rfl))))) (by simp only [List.set_cons_succ, List.set_cons_zero]; rfl) ?_
  refine relPure Ext.refl rfl rfl rfl rfl (c := .agg (hdc h).toArray) (fun w hw => exec_loadAv (aH.below hw.drew) _ _ rfl rfl _ 68 h68.out Tryd.underlying26 rfl (by kernel_rfl)) (by simp only [List.set_cons_succ, List.set_cons_zero]; rfl) ?_
  refine relCall _ rfl rfl rfl 24 #[.agg (hdc h).toArray] (fun w => by go_simp) (fun w hw => (HU'.out w).mono (by rintro e w' ⟨⟨A', c', rfl, oo⟩, hb⟩; exact ⟨_, rfl, hb, A', c', by rw [← hU80.out], oo.rd⟩)) ?_
  refine relOn (c := .string ⟨U.toArray⟩) rfl rfl (fun w hw => fill_skip rfl (fill_take rfl rfl fun v hv => fill_end (relOp_yes rfl (str_word hv _ rfl (by rw [eval_evL]; rfl))))) (by simp only [List.set_cons_succ, List.set_cons_zero]; rfl) ?_
  refine relBin Ext.refl rfl rfl rfl rfl _ _ _ _ _ rfl (by conv => lhs; whnf) (by conv => lhs; whnf) (c := .bool true) (fun w => by go_simp) (by simp only [List.set_cons_succ, List.set_cons_zero]; rfl) ?_
  refine relPick Ext.refl rfl rfl rfl rfl _ _ _ rfl rfl (by conv => lhs; whnf) (by simp only [List.set_cons_succ, List.set_cons_zero]; rfl) ?_
  refine relMove Ext.refl rfl rfl rfl rfl _ (.inl rfl) (by conv => lhs; whnf) (by simp only [List.set_cons_succ, List.set_cons_zero]; rfl) ?_
  refine relPure Ext.refl rfl rfl rfl rfl (c := .agg (hdc X).toArray) (fun w hw => exec_loadAv (ax1.below hw.drew) _ _ rfl rfl _ 68 x68.out Tryd.underlying26 rfl (by kernel_rfl)) (by simp only [List.set_cons_succ, List.set_cons_zero]; rfl) ?_
  refine relPure Ext.refl rfl rfl rfl rfl (c := .agg (hdc X).toArray) (fun w hw => exec_loadAv (ax2.below hw.drew) _ _ rfl rfl _ 68 x68.out Tryd.underlying26 rfl (by kernel_rfl)) (by simp only [List.set_cons_succ, List.set_cons_zero]; rfl) ?_
  refine relBin Ext.refl rfl rfl rfl rfl _ _ _ _ _ rfl (by conv => lhs; whnf) (by conv => lhs; whnf) (c := .bool true) (fun w => NX.out _ _ w) (by simp only [List.set_cons_succ, List.set_cons_zero]; rfl) ?_
  refine relPick Ext.refl rfl rfl rfl rfl _ _ _ rfl rfl (by conv => lhs; whnf) (by simp only [List.set_cons_succ, List.set_cons_zero]; rfl) ?_
  refine relMove Ext.refl rfl rfl rfl rfl _ (.inl rfl) (by conv => lhs; whnf) (by simp only [List.set_cons_succ, List.set_cons_zero]; rfl) ?_
  refine relMove Ext.refl rfl rfl rfl rfl _ (.inl rfl) (by conv => lhs; whnf) (by simp only [List.set_cons_succ, List.set_cons_zero]; rfl) ?_
  refine relMove Ext.refl rfl rfl rfl rfl _ (.inl rfl) (by conv => lhs; whnf) (by simp only [List.set_cons_succ, List.set_cons_zero]; rfl) ?_
  refine relPure Ext.refl rfl rfl rfl rfl (c := .bool true) (fun w _ => by go_simp; first | done | rfl) (by simp only [List.set_cons_succ, List.set_cons_zero]; rfl) ?_
  refine relPick Ext.refl rfl rfl rfl rfl _ _ _ rfl rfl (by conv => lhs; whnf) (by simp only [List.set_cons_succ, List.set_cons_zero]; rfl) ?_
  refine relMove Ext.refl rfl rfl rfl rfl _ (.inl rfl) (by conv => lhs; whnf) (by simp only [List.set_cons_succ, List.set_cons_zero]; rfl) ?_
  refine relPure Ext.refl rfl rfl rfl rfl (c := .agg (hdc h).toArray) (fun w hw => exec_loadAv (aH.below hw.drew) _ _ rfl rfl _ 68 h68.out Tryd.underlying26 rfl (by kernel_rfl)) (by simp only [List.set_cons_succ, List.set_cons_zero]; rfl) ?_
  refine relCall1 rfl rfl rfl rfl (c := .agg (hcs K)) 12 #[.agg (hdc h).toArray] (fun w => by go_simp) (fun w hw => (HI.out w (ht13.below hw.drew)).mono ?_) (by simp only [List.set_cons_succ, List.set_cons_zero]; rfl) ?_
  · rintro e w' ⟨rfl, hb⟩
    exact ⟨rfl, hb⟩
  refine relPure Ext.refl rfl rfl rfl rfl (c := .agg (hdc h).toArray) (fun w hw => exec_loadAv (aH.below hw.drew) _ _ rfl rfl _ 68 h68.out Tryd.underlying26 rfl (by kernel_rfl)) (by simp only [List.set_cons_succ, List.set_cons_zero]; rfl) ?_
  refine relCall1 rfl rfl rfl rfl (c := .agg (hcs K)) 25 #[.agg (hdc h).toArray] (fun w => by go_simp) (fun w hw => (HI'.out w).mono ?_) (by simp only [List.set_cons_succ, List.set_cons_zero]; rfl) ?_
  · rintro e w' ⟨rfl, hb⟩
    exact ⟨rfl, hb⟩
  refine relBin Ext.refl rfl rfl rfl rfl _ _ _ _ _ rfl (by conv => lhs; whnf) (by conv => lhs; whnf) (c := .bool true) (fun w => NK.out _ _ w) (by simp only [List.set_cons_succ, List.set_cons_zero]; rfl) ?_
  refine relPick Ext.refl rfl rfl rfl rfl _ _ _ rfl rfl (by conv => lhs; whnf) (by simp only [List.set_cons_succ, List.set_cons_zero]; rfl) ?_
  refine relMove Ext.refl rfl rfl rfl rfl _ (.inl rfl) (by conv => lhs; whnf) (by simp only [List.set_cons_succ, List.set_cons_zero]; rfl) ?_
  refine relPure Ext.refl rfl rfl rfl rfl (c := .agg (hdc Y).toArray) (fun w hw => exec_loadAv (amine1.below hw.drew) _ _ rfl rfl _ 68 y68.out Tryd.underlying26 rfl (by kernel_rfl)) (by simp only [List.set_cons_succ, List.set_cons_zero]; rfl) ?_
  refine relPure Ext.refl rfl rfl rfl rfl (c := .agg (hdc Y).toArray) (fun w hw => exec_loadAv (amine2.below hw.drew) _ _ rfl rfl _ 68 y68.out Tryd.underlying26 rfl (by kernel_rfl)) (by simp only [List.set_cons_succ, List.set_cons_zero]; rfl) ?_
  refine relBin Ext.refl rfl rfl rfl rfl _ _ _ _ _ rfl (by conv => lhs; whnf) (by conv => lhs; whnf) (c := .bool true) (fun w => NY.out _ _ w) (by simp only [List.set_cons_succ, List.set_cons_zero]; rfl) ?_
  refine relPick Ext.refl rfl rfl rfl rfl _ _ _ rfl rfl (by conv => lhs; whnf) (by simp only [List.set_cons_succ, List.set_cons_zero]; rfl) ?_
  refine relMove Ext.refl rfl rfl rfl rfl _ (.inl rfl) (by conv => lhs; whnf) (by simp only [List.set_cons_succ, List.set_cons_zero]; rfl) ?_
  refine relMove Ext.refl rfl rfl rfl rfl _ (.inl rfl) (by conv => lhs; whnf) (by simp only [List.set_cons_succ, List.set_cons_zero]; rfl) ?_
  refine relMove Ext.refl rfl rfl rfl rfl _ (.inl rfl) (by conv => lhs; whnf) (by simp only [List.set_cons_succ, List.set_cons_zero]; rfl) ?_
  refine relPure Ext.refl rfl rfl rfl rfl (c := .bool true) (fun w _ => by go_simp; first | done | rfl) (by simp only [List.set_cons_succ, List.set_cons_zero]; rfl) ?_
  refine relPick Ext.refl rfl rfl rfl rfl _ _ _ rfl rfl (by conv => lhs; whnf) (by simp only [List.set_cons_succ, List.set_cons_zero]; rfl) ?_
  refine relMove Ext.refl rfl rfl rfl rfl _ (.inl rfl) (by conv => lhs; whnf) (by simp only [List.set_cons_succ, List.set_cons_zero]; rfl) ?_
  refine relMove Ext.refl rfl rfl rfl rfl _ (.inl rfl) (by conv => lhs; whnf) (by simp only [List.set_cons_succ, List.set_cons_zero]; rfl) ?_
  refine relStr rfl rfl rfl rfl _ rfl (by conv => lhs; whnf) V rfl (fun w hw => r10.below hw.drew) (by simp only [List.set_cons_succ, List.set_cons_zero]; rfl) ?_
  refine relMove Ext.refl rfl rfl rfl rfl _ (.inl rfl) (by conv => lhs; whnf) (by simp only [List.set_cons_succ, List.set_cons_zero]; rfl) ?_
  refine relStr rfl rfl rfl rfl _ rfl (by conv => lhs; whnf) V rfl (fun w hw => r11.below hw.drew) (by simp only [List.set_cons_succ, List.set_cons_zero]; rfl) ?_
  refine relBin Ext.refl rfl rfl rfl rfl _ _ _ _ _ rfl (by conv => lhs; whnf) (by conv => lhs; whnf) (c := .bool true) (fun w => by go_simp) (by simp only [List.set_cons_succ, List.set_cons_zero]; rfl) ?_
  refine relPick Ext.refl rfl rfl rfl rfl _ _ _ rfl rfl (by conv => lhs; whnf) (by simp only [List.set_cons_succ, List.set_cons_zero]; rfl) ?_
  refine relMove Ext.refl rfl rfl rfl rfl _ (.inl rfl) (by conv => lhs; whnf) (by simp only [List.set_cons_succ, List.set_cons_zero]; rfl) ?_
  refine relMove Ext.refl rfl rfl rfl rfl _ (.inl rfl) (by conv => lhs; whnf) (by simp only [List.set_cons_succ, List.set_cons_zero]; rfl) ?_
  refine relMove Ext.refl rfl rfl rfl rfl _ (.inl rfl) (by conv => lhs; whnf) (by simp only [List.set_cons_succ, List.set_cons_zero]; rfl) ?_
  refine relPure Ext.refl rfl rfl rfl rfl (c := .bool true) (fun w _ => by go_simp; first | done | rfl) (by simp only [List.set_cons_succ, List.set_cons_zero]; rfl) ?_
  refine relPick Ext.refl rfl rfl rfl rfl _ _ _ rfl rfl (by conv => lhs; whnf) (by simp only [List.set_cons_succ, List.set_cons_zero]; rfl) ?_
  refine relMove Ext.refl rfl rfl rfl rfl _ (.inl rfl) (by conv => lhs; whnf) (by simp only [List.set_cons_succ, List.set_cons_zero]; rfl) ?_
  refine relMove Ext.refl rfl rfl rfl rfl _ (.inl rfl) (by conv => lhs; whnf) (by simp only [List.set_cons_succ, List.set_cons_zero]; rfl) ?_
  refine relMove Ext.refl rfl rfl rfl rfl _ (.inl rfl) (by conv => lhs; whnf) (by simp only [List.set_cons_succ, List.set_cons_zero]; rfl) ?_
  refine relCall1 rfl rfl rfl rfl (c := .bool true) 19 #[.slice B12 m12 d12, .slice B13 m13 d13] (fun w => by go_simp) (fun w hw => (HS.out w (q12.below hw.drew) (q13.below hw.drew)).mono ?_) (by simp only [List.set_cons_succ, List.set_cons_zero]; rfl) ?_
  · rintro e w' ⟨rfl, hb⟩
    exact ⟨rfl, hb⟩
  refine relPick Ext.refl rfl rfl rfl rfl _ _ _ rfl rfl (by conv => lhs; whnf) (by simp only [List.set_cons_succ, List.set_cons_zero]; rfl) ?_
  refine relMove Ext.refl rfl rfl rfl rfl _ (.inl rfl) (by conv => lhs; whnf) (by simp only [List.set_cons_succ, List.set_cons_zero]; rfl) ?_
  refine relMove Ext.refl rfl rfl rfl rfl _ (.inl rfl) (by conv => lhs; whnf) (by simp only [List.set_cons_succ, List.set_cons_zero]; rfl) ?_
  refine relMove Ext.refl rfl rfl rfl rfl _ (.inl rfl) (by conv => lhs; whnf) (by simp only [List.set_cons_succ, List.set_cons_zero]; rfl) ?_
  refine relPure Ext.refl rfl rfl rfl rfl (c := .bool true) (fun w _ => by go_simp; first | done | rfl) (by simp only [List.set_cons_succ, List.set_cons_zero]; rfl) ?_
  refine relPick Ext.refl rfl rfl rfl rfl _ _ _ rfl rfl (by conv => lhs; whnf) (by simp only [List.set_cons_succ, List.set_cons_zero]; rfl) ?_
  refine relMove Ext.refl rfl rfl rfl rfl _ (.inl rfl) (by conv => lhs; whnf) (by simp only [List.set_cons_succ, List.set_cons_zero]; rfl) ?_
  refine relMove Ext.refl rfl rfl rfl rfl _ (.inl rfl) (by conv => lhs; whnf) (by simp only [List.set_cons_succ, List.set_cons_zero]; rfl) ?_
  refine relCall1 rfl rfl rfl rfl (c := .int .i64 (J : Int)) 13 #[.slice B m d] (fun w => by go_simp) (fun w hw => (HJ.out w (hl13.below hw.drew) (ht13.below hw.drew)).mono ?_) (by simp only [List.set_cons_succ, List.set_cons_zero]; rfl) ?_
  · rintro e w' ⟨rfl, hb⟩
    exact ⟨rfl, hb⟩
  refine relMove Ext.refl rfl rfl rfl rfl _ (.inl rfl) (by conv => lhs; whnf) (by simp only [List.set_cons_succ, List.set_cons_zero]; rfl) ?_
  refine relCall1 rfl rfl rfl rfl (c := .int .i64 (J : Int)) 26 #[.slice B m d] (fun w => by go_simp) (fun w hw => (HJ'.out w (hl13.below hw.drew)).mono ?_) (by simp only [List.set_cons_succ, List.set_cons_zero]; rfl) ?_
  · rintro e w' ⟨rfl, hb⟩
    exact ⟨rfl, hb⟩
  refine relPure Ext.refl rfl rfl rfl rfl (c := .bool true) (fun w _ => by go_simp; first | done | rfl) (by simp only [List.set_cons_succ, List.set_cons_zero]; rfl) ?_
  refine relPick Ext.refl rfl rfl rfl rfl _ _ _ rfl rfl (by conv => lhs; whnf) (by simp only [List.set_cons_succ, List.set_cons_zero]; rfl) ?_
  refine relMove Ext.refl rfl rfl rfl rfl _ (.inr rfl) (by conv => lhs; whnf) (by simp only [List.set_cons_succ, List.set_cons_zero]; rfl) ?_
  refine relEnd fun w14 hw14 => fill_take rfl rfl fun v hv => fill_take rfl rfl fun v' hv' => fill_end ?_
  simp only [List.set_cons_succ, List.set_cons_zero]
  clear hv hv'
  have b14 := b13'.trans (hw14.drew.mono b13'.size)
  go_wp2
  go_ret
  exact ⟨rfl, b14⟩
theorem law_HeaderIs (h : Hd) (hok : h.ok) (lim : Nat) (hlim : lim < 4294967296) (tries : Int) (bs : List UInt8) (A : Option Addr) (n c : Nat) (hn : bs.length = n) (hc : n ≤ c) (l : List Hd) (B : Option Addr) (m d : Nat) (hm : l.length = m) (w : World) (ht : Tabs w) (hr : Rd w A (bs.map bv)) (hl : RdHds w B l) : Calls Tryd.prog 8 #[.agg (hdc h).toArray, .int .u32 (lim : Int), .int .i64 tries, .slice A n c, .slice B m d] w fun e w' => e = .returned (.bool true) ∧ Below w.heap.size w w' := by
  by_cases h1 : n ≤ 2000
  · by_cases h2 : m ≤ 20
    · by_cases h3 : tries ≤ 60
      · exact his_main h hok lim hlim tries bs A n c hn hc l B m d hm h1 h2 h3 w ht hr hl
      · exact his_long3 h lim tries A n c B m d h1 h2 (by omega) w ht
    · exact his_long2 h lim tries A n c B m d h1 (by omega) w ht
  · exact his_long1 h lim tries A n c B m d (by omega) w ht
end Go.Proofs.YtjgdmpbaikhflaaDoor
