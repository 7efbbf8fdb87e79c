import Derived.Test.YtobjgebojhjhnaaDoorK0
import Derived.Deep.CutRange
namespace Go.Proofs.YtobjgebojhjhnaaDoor
open Go.RowKit
set_option maxRecDepth 100000 in
set_option maxHeartbeats 8000000 in
theorem wcon_far (S : List (List UInt8 × Sl)) (As At An : Option Addr) (ns cs nt ct nn cn : Nat) (hS : S.length = ns) (hns : ns ≤ maxLen) (N : List Sn) (hN : N.length = nn)
  (l : List Hd) (B : Option Addr) (m d : Nat) (hm : l.length = m) (tip : Int) (_ : -9223372036854775808 ≤ tip ∧ tip ≤ 9223372036854775807) (y : List UInt8) (_ : y.length = 32)
  (w : World) (ht : Tabs w) (rS : RdBss w As S) (_ : RdSns w An N) (_ : RdHds w B l) (hfar : ¬ (wFew (S.map (·.1)) nt nn = true ∧ m ≤ 20)) :
  Calls Tryd.prog 6 #[.agg (wtc As At An ns cs nt ct nn cn).toArray, .slice B m d, .int .i64 tip, .agg (hcs y)] w fun e w' => e = .returned (.bool true) ∧ Below w.heap.size w w' := by
 by_cases hfew : wFew (S.map (·.1)) nt nn = true
 ·have h20 : 20 < m := by
   rcases Nat.lt_or_ge 20 m with z | z
   ·exact z
   ·exact absurd ⟨hfew, z⟩ hfar
  have t3 : decide ((20 : Int) < (m : Int)) = true := by simp; omega
  have t3' : decide (20 < m) = true := by simp; omega
  clear hfar
  replace hfew := Lib.hid hfew
  have HA := fun w' t => awake21 w' t
  have HF := fun w' r => WFew S As At An ns cs nt ct nn cn hS hns w' r
  rw [hfew.out] at HF
  obtain ⟨W, hW⟩ : ∃ W, W = (w.alloc (.cells (wtc As At An ns cs nt ct nn cn).toArray 26)).alloc (.cells (y.map bv).toArray 30) := ⟨_, rfl⟩
  obtain ⟨H, hH⟩ : ∃ H, H = w.heap.size := ⟨_, rfl⟩
  have aW : Av W H 26 (wtc As At An ns cs nt ct nn cn) := by rw [hW, hH]; exact heap_alloc2_old _ _ _
  have iW : Av W (H + 1) 30 (y.map bv) := by rw [hW, hH]; exact heap_alloc2_new _ _ _
  have bW : Below w.heap.size w W := by rw [hW]; exact ((Below.refl _ _).alloc (Nat.le_refl _) _).alloc (by simp) _
  have htW := ht.below bW
  have rSW := rS.below bW
  replace HA := Lib.hid HA
  replace HF := Lib.hid HF
  replace hW := Lib.hid hW
  replace hH := Lib.hid hH
  replace hS := Lib.hid hS
  replace hN := Lib.hid hN
  replace hm := Lib.hid hm
  go_enter Tryd.func6, Tryd.ntmps6
  go_upto_region 1 with fail
  rw [← hH.out]
  rw [show (w.alloc (.cells (wtc As At An ns cs nt ct nn cn).toArray 26)).alloc (.cells (hcs y) 30) = W from hW.out.symm]
  go_upto_region 2 with (go_at_call 9; refine (HA.out W htW).mono ?_; rintro e w1 ⟨rfl, b1⟩)
  have a1 := aW.below b1
  have i1 := iW.below b1
  have rS1 := rSW.below b1
  have B1 := bW.trans (b1.mono bW.size)
  have l3 : (wtc As At An ns cs nt ct nn cn).length = 3 := rfl
  go_wp2_with (first
   | ((with_reducible refine wpList_loadF 26 a1 ?_ _ 3 l3 Tryd.underlying26 ?_ ?_ ?_); rfl; rfl; kernel_rfl)
   | (go_at_call 10; refine (HF.out w1 rS1).mono ?_; rintro e2 w2 ⟨rfl, b2⟩))
  go_ret
  exact ⟨rfl, B1.trans (b2.mono B1.size)⟩
 ·rw [Bool.not_eq_true] at hfew
  clear hfar
  have HA := fun w' t => awake21 w' t
  have HF := fun w' r => WFew S As At An ns cs nt ct nn cn hS hns w' r
  rw [hfew] at HF
  clear hfew
  obtain ⟨W, hW⟩ : ∃ W, W = (w.alloc (.cells (wtc As At An ns cs nt ct nn cn).toArray 26)).alloc (.cells (y.map bv).toArray 30) := ⟨_, rfl⟩
  obtain ⟨H, hH⟩ : ∃ H, H = w.heap.size := ⟨_, rfl⟩
  have aW : Av W H 26 (wtc As At An ns cs nt ct nn cn) := by rw [hW, hH]; exact heap_alloc2_old _ _ _
  have iW : Av W (H + 1) 30 (y.map bv) := by rw [hW, hH]; exact heap_alloc2_new _ _ _
  have bW : Below w.heap.size w W := by rw [hW]; exact ((Below.refl _ _).alloc (Nat.le_refl _) _).alloc (by simp) _
  have htW := ht.below bW
  have rSW := rS.below bW
  replace HA := Lib.hid HA
  replace HF := Lib.hid HF
  replace hW := Lib.hid hW
  replace hH := Lib.hid hH
  replace hS := Lib.hid hS
  replace hN := Lib.hid hN
  replace hm := Lib.hid hm
  go_enter Tryd.func6, Tryd.ntmps6
  go_upto_region 1 with fail
  rw [← hH.out]
  rw [show (w.alloc (.cells (wtc As At An ns cs nt ct nn cn).toArray 26)).alloc (.cells (hcs y) 30) = W from hW.out.symm]
  go_upto_region 2 with (go_at_call 9; refine (HA.out W htW).mono ?_; rintro e w1 ⟨rfl, b1⟩)
  have a1 := aW.below b1
  have i1 := iW.below b1
  have rS1 := rSW.below b1
  have B1 := bW.trans (b1.mono bW.size)
  have l3 : (wtc As At An ns cs nt ct nn cn).length = 3 := rfl
  go_wp2_with (first
   | ((with_reducible refine wpList_loadF 26 a1 ?_ _ 3 l3 Tryd.underlying26 ?_ ?_ ?_); rfl; rfl; kernel_rfl)
   | (go_at_call 10; refine (HF.out w1 rS1).mono ?_; rintro e2 w2 ⟨rfl, b2⟩))
  go_ret
  exact ⟨rfl, B1.trans (b2.mono B1.size)⟩
set_option maxRecDepth 100000 in
set_option maxHeartbeats 16000000 in
theorem wcon_main (S : List (List UInt8 × Sl)) (As At An : Option Addr) (ns cs nt ct nn cn : Nat) (hS : S.length = ns) (hns : ns ≤ maxLen) (N : List Sn) (hN : N.length = nn)
  (l : List Hd) (B : Option Addr) (m d : Nat) (hm : l.length = m) (tip : Int) (htip : -9223372036854775808 ≤ tip ∧ tip ≤ 9223372036854775807) (y : List UInt8) (yl : y.length = 32)
  (w : World) (ht : Tabs w) (rS : RdBss w As S) (rN : RdSns w An N) (rl : RdHds w B l) (hfew : wFew (S.map (·.1)) nt nn = true) (hm20 : m ≤ 20) :
  Calls Tryd.prog 6 #[.agg (wtc As At An ns cs nt ct nn cn).toArray, .slice B m d, .int .i64 tip, .agg (hcs y)] w fun e w' => e = .returned (.bool true) ∧ Below w.heap.size w w' := by
 obtain ⟨_, hns3, hnt60, hnn60⟩ := wFew_iff.1 hfew
 have t3 : decide ((20 : Int) < (m : Int)) = false := by simp; omega
 have t3' : decide (20 < m) = false := by simp; omega
 have HPl := fun w' t r => Plainly l B m d hm (by omega) w' t r
 have okds : TOk (mAll 60 l) := mAll_ok 60 l fun h hh => rl.2 h hh
 have hdl : (mAll 60 l).length ≤ 20 := by have := mAll_len 60 l; omega
 obtain ⟨ds, hds⟩ : ∃ ds, ds = mAll 60 l := ⟨_, rfl⟩
 rw [← hds] at HPl okds hdl
 have HE := fun w' r => Eye As At An ns cs nt ct nn cn N hN (by omega) w' r
 have y32 := Lib.hid (show (y.map bv).length = 32 by rw [List.length_map, yl])
 replace hfew := Lib.hid hfew
 clear hns3
 have HA := fun w' t => awake21 w' t
 have HF := fun w' r => WFew S As At An ns cs nt ct nn cn hS hns w' r
 rw [hfew.out] at HF
 obtain ⟨W, hW⟩ : ∃ W, W = (w.alloc (.cells (wtc As At An ns cs nt ct nn cn).toArray 26)).alloc (.cells (y.map bv).toArray 30) := ⟨_, rfl⟩
 obtain ⟨H, hH⟩ : ∃ H, H = w.heap.size := ⟨_, rfl⟩
 have aW : Av W H 26 (wtc As At An ns cs nt ct nn cn) := by rw [hW, hH]; exact heap_alloc2_old _ _ _
 have iW : Av W (H + 1) 30 (y.map bv) := by rw [hW, hH]; exact heap_alloc2_new _ _ _
 have bW : Below w.heap.size w W := by rw [hW]; exact ((Below.refl _ _).alloc (Nat.le_refl _) _).alloc (by simp) _
 have htW := ht.below bW
 have rSW := rS.below bW
 replace HA := Lib.hid HA
 replace HF := Lib.hid HF
 replace hW := Lib.hid hW
 replace hH := Lib.hid hH
 replace hS := Lib.hid hS
 replace hN := Lib.hid hN
 replace hm := Lib.hid hm
 replace HPl := Lib.hid HPl
 replace HE := Lib.hid HE
 replace hds := Lib.hid hds
 go_enter Tryd.func6, Tryd.ntmps6
 go_upto_region 1 with fail
 rw [← hH.out]
 rw [show (w.alloc (.cells (wtc As At An ns cs nt ct nn cn).toArray 26)).alloc (.cells (hcs y) 30) = W from hW.out.symm]
 go_upto_region 2 with (go_at_call 9; refine (HA.out W htW).mono ?_; rintro e w1 ⟨rfl, b1⟩)
 have a1 := aW.below b1
 have i1 := iW.below b1
 have rS1 := rSW.below b1
 have B1 := bW.trans (b1.mono bW.size)
 have l3 : (wtc As At An ns cs nt ct nn cn).length = 3 := rfl
 go_upto_region 4 with (first
  | ((with_reducible refine wpList_loadF 26 a1 ?_ _ 3 l3 Tryd.underlying26 ?_ ?_ ?_); rfl; rfl; kernel_rfl)
  | (go_at_call 10; refine (HF.out w1 rS1).mono ?_; rintro e2 w2 ⟨rfl, b2⟩))
 have B2 := B1.trans (b2.mono B1.size)
 have t2' := ht.below B2
 have rl2 := rl.below B2
 go_upto_region 5 with (go_at_call 11; refine (HPl.out w2 t2' rl2).mono ?_; rintro e2 wr ⟨vt, rfl, hvR, b3⟩)
 have BR := B2.trans (b3.mono B2.size)
 have aR := (a1.below b2).below b3
 have iR := (i1.below b2).below b3
 have rNR := rN.below BR
 have HD := fun A' c' w' hv r => WDepth As At A' ns cs nt ct nn c' N hN.out (by omega) vt ds okds tip htip y yl w' hv r
 obtain ⟨C, okb, hCD⟩ : ∃ C okb, wDepth ds tip y N = (C, okb) := ⟨_, _, rfl⟩
 rw [hCD] at HD
 dsimp only at HD
 have Cok : C.ok := wDepth_ok rN.2 hCD
 have C66 := Lib.hid (cfc_length Cok)
 have Cone := Lib.hid (List.all_eq_true.2 (cfc_one C))
 have zcf66 : (cfc zeroCf).length = 66 := rfl
 replace HD := Lib.hid HD
 replace hCD := Lib.hid hCD
 clear a1 i1 rS1 b1 b2 b3 aW iW rSW htW HF HA HPl t2' rl2 B1 B2 bW
 refine wp_region_relL [(8, 10)] 10 [(1, EyeW As At ns cs nt ct nn N), (9, CnfW wr.heap.size)] Ext (by kernel_rfl) (by simp only [lates, late, List.push_toArray, List.cons_append, List.nil_append]; rfl) (by kernel_rfl) (fun _ _ _ _ _ h => h) (by kernel_rfl) (by kernel_rfl) (by kernel_rfl) (by kernel_rfl) Ext.refl Ext.trans (by intro p hp v w w' hR; simp only [List.mem_cons, List.not_mem_nil, or_false] at hp; rcases hp with rfl | rfl; exact EyeW.mono hR; exact CnfW.mono hR) ?_
 refine ZP (c := .agg (wtc As At An ns cs nt ct nn cn).toArray) (fun w hw => exec_loadAv (aR.below hw.drew) _ _ rfl rfl _ 3 rfl Tryd.underlying26 rfl (by kernel_rfl)) ?_
 refine relWord _ rfl (fun w hw => fill_none rfl (relOp_yes rfl (relRes_enterW 13 #[.agg (wtc As At An ns cs nt ct nn cn).toArray] (by go_simp) ((HE.out w (rNR.below hw.drew)).mono ?_)))) ?_
 ·rintro e w' ⟨A', c', rfl, r', b'⟩
  exact ⟨_, rfl, b', A', c', rfl, r'⟩
 refine ZM ?_
 refine ZM ?_
 refine ZP (c := .agg (y.map bv).toArray) (fun w hw => exec_loadAv (iR.below hw.drew) _ _ rfl rfl _ 32 y32.out Tryd.underlying30 rfl (by kernel_rfl)) ?_
 refine relOn rfl rfl (c := .tuple #[.agg (cfc C).toArray, .bool okb]) (fun w hw => fill_take rfl rfl fun v hv => fill_none rfl ?_) (by simp only [Zs]; rfl) ?_
 ·obtain ⟨A', c', rfl, r'⟩ := hv
  refine relOp_yes rfl (relRes_enterW 26 #[.agg (wtc As At A' ns cs nt ct nn c').toArray, vt, .int .i64 tip, .agg (hcs y)] (by go_simp) ?_)
  exact (HD.out A' c' w (hvR.below hw.drew) r').mono fun _ _ h => ⟨_, h.1, h.2, rfl⟩
 refine ZM ?_
 refine ZP (c := .agg (cfc C).toArray) (fun w _ => by go_simp; first | done | rfl) ?_
 refine ZP (c := .bool okb) (fun w _ => by go_simp; first | done | rfl) ?_
 refine relWord _ rfl (fun w hw => fill_none rfl (relOp_yes rfl ?_)) ?_
 ·refine ⟨(Below.refl _ _).alloc (Nat.le_refl _) _, w.heap.size, rfl, hw.drew.size, ?_⟩
  unfold Av
  rw [← zeros_Cf]
  exact heap_alloc_new _ _
 refine relEnd fun w6 hw6 => fill_take rfl rfl fun v1 hv1 => fill_take rfl rfl fun v2 hv2 => fill_end ?_
 obtain ⟨GC, rfl, hGC, zC⟩ := hv2
 clear hv1
 simp only [List.set_cons_succ, List.set_cons_zero, List.drop_succ_cons, List.drop_zero]
 have bC : Below wr.heap.size wr w6 := hw6.drew
 go_upto_region 6 with ((with_reducible refine wpList_storeFA 84 bC zC hGC (cfc C) ?_ ?_ 66 C66.out ?_ ?_ ?_ ?_); rfl; rfl; kernel_rfl; exact zcf66; exact Cone.out; intro w7 uC bw7 kw7 zw7)
 clear bC zC kw7 zw7
 have B7 := BR.trans (bw7.mono BR.size)
 have hll := lineL_le okds tip
 have HL := fun w' r => TLine vt ds okds tip htip w' r
 obtain ⟨LL, hLL⟩ : ∃ LL, LL = lineL ds tip := ⟨_, rfl⟩
 rw [← hLL] at HL hll
 have hv7 := hvR.below bw7
 replace HL := Lib.hid HL
 replace hLL := Lib.hid hLL
 go_upto_region 7 with (go_at_call 27; refine (HL.out w7 hv7).mono ?_; rintro e8 w8 ⟨⟨_, rfl, AL, nL, cL, rfl, hlL, rL⟩, b8⟩)
 have B8 := B7.trans (b8.mono B7.size)
 have a8 := (aR.below bw7).below b8
 have i8 := (iR.below bw7).below b8
 have u8 := uC.below b8
 have v8 := hv7.below b8
 have N8 := rN.below B8
 have hnL : nL ≤ 20 := by omega
 have hzs := zeros_Snr
 obtain ⟨ys, hyy⟩ : ∃ ys, ys = snc ⟨List.replicate 32 0, List.replicate 32 0, 0⟩ := ⟨_, rfl⟩
 have hyl := Lib.hid (show ys.length = 65 by rw [hyy]; rfl)
 rw [← hyy] at hzs
 clear hyy
 replace hlL := Lib.hid hlL
 clear aR iR rNR hvR uC hv7 BR bw7 b8 HE HD HL hw6 B7
 go_wp2
 go_loopw [14, 15, 16] (fun bv' fv iv wr => ∃ (i Bn : Nat) (Fv : Bool), i ≤ nn ∧ bv' = .int .i64 (Bn : Int) ∧ fv = .bool Fv ∧ iv = .int .i64 (i : Int) ∧ Hid (Fv = cF ds tip y N i) ∧ Hid (Bn = cB ds tip y C N i) ∧ Below w8.heap.size w8 wr) (fun _ _ iv _ => nn - (intOf iv).toNat)
 case atStart => exact ⟨0, 0, false, by omega, rfl, rfl, rfl, Lib.hid rfl, Lib.hid rfl, Below.refl _ _⟩
 case round =>
  obtain ⟨i, B0, F0, hi, rfl, rfl, rfl, hF0, hB0, br⟩ := hrel
  have d2 := (a8.below br).cell 2 (.slice An nn cn) rfl
  by_cases hlt : i < nn
  ·have u2 : decide ((i : Int) < (nn : Int)) = true := by simp; omega
   obtain ⟨x, hx⟩ : ∃ x, N[i]? = some x := ⟨_, List.getElem?_eq_getElem (by rw [hN.out]; exact hlt)⟩
   obtain ⟨b4, o4, rfl⟩ := N8.adr (by rw [hN.out]; omega)
   obtain ⟨rx, xok⟩ := (N8.below br).nth i x hx
   have hxm := List.mem_of_getElem? hx
   have x65 := Lib.hid (snc_length xok)
   have xone := Lib.hid (List.all_eq_true.2 (snc_one x))
   have xk1 := Lib.hid (show (x.id.map bv).length = 32 by rw [List.length_map, xok.1])
   have xk2 := Lib.hid (show (x.blk.map bv).length = 32 by rw [List.length_map, xok.2])
   have ck2 := Lib.hid (show (C.blk.map bv).length = 32 by rw [List.length_map, Cok.2])
   have xc64 := Lib.hid (snc_pos xok)
   have cc64 := Lib.hid (cfc_at Cok).1
   have m0 : 0 ≤ (i : Int) := by omega
   have m1 : (i : Int) < (nn : Int) := by omega
   have HFn := fun w' r => TFind vt ds x.blk xok.2 w' r
   obtain ⟨fo, hfo⟩ : ∃ fo, fo = tFind ds x.blk := ⟨_, rfl⟩
   rw [← hfo] at HFn
   obtain ⟨a, ha⟩ : ∃ a, a = fo.getD 0 := ⟨_, rfl⟩
   obtain ⟨inb, hinb⟩ : ∃ inb, inb = fo.isSome := ⟨_, rfl⟩
   rw [← ha, ← hinb] at HFn
   obtain ⟨idq, hidq⟩ : ∃ idq, idq = (x.id == y) := ⟨_, rfl⟩
   obtain ⟨on, hon⟩ : ∃ on, on = mOn ds tip a := ⟨_, rfl⟩
   obtain ⟨bq, hbq⟩ : ∃ bq, bq = (x.blk == C.blk) := ⟨_, rfl⟩
   obtain ⟨pq, hpq⟩ : ∃ pq, pq = (x.pos == C.pos) := ⟨_, rfl⟩
   have hly : wLies ds tip y x = (inb && (idq && on)) := by
    unfold wLies
    rw [← hidq]
    have e1 : decide (0 < (confM ds tip x).dep) = (inb && on) := by
     cases hf : fo with
     | none =>
      have : (confM ds tip x).dep = 0 := by unfold confM; rw [← hfo, hf]
      rw [this, hinb, hf]
      rfl
     | some z =>
      have hz : a = z := by rw [ha, hf]; rfl
      have : (confM ds tip x).dep = mDep ds tip a := by unfold confM; rw [← hfo, hf, hz]
      rw [this, mDep_pos, ← hon, hinb, hf]
      rfl
    rw [e1]
    cases inb <;> cases idq <;> cases on <;> rfl
   have hcm : cM ds tip y C x = ((inb && (idq && on)) && (bq && pq)) := by unfold cM; rw [hly, hbq, hpq]
   have hFs := cF_step (ds := ds) (tip := tip) (y := y) hx
   have hBs := cB_step (ds := ds) (tip := tip) (y := y) (C := C) hx
   rw [← hF0.out, hly] at hFs
   rw [← hB0.out, hcm] at hBs
   have hdep : ((inb && (idq && on)) && (bq && pq)) = true → nL - tHgt ds a = C.dep := fun q => by
    have h1 := cM_dep hCD.out hxm (by rw [hcm]; exact q)
    have hi2 : inb = true := by cases inb <;> simp_all
    have ho2 : on = true := by cases on <;> simp_all
    have h2 := (lineL_dep (hon.symm.trans ho2)).2
    rw [← hLL.out, hlL.out] at h2
    rw [h2, ← h1]
    cases hf : fo with
    | none => rw [hinb, hf] at hi2; cases hi2
    | some z =>
     have hz : a = z := by rw [ha, hf]; rfl
     unfold confM
     rw [← hfo, hf, hz]
   have hlast : on = true → tHgt ds a < nL := fun q => by
    have h2 := (lineL_dep (hon.symm.trans q)).1
    rw [← hLL.out, hlL.out] at h2
    exact h2
   have hat : ∀ k z, LL[k]? = some z → (z = a ↔ (on = true ∧ k = tHgt ds a)) := fun k z q => by
    rw [hLL.out] at q
    constructor
    ·rintro rfl
     have := (lineL_at okds k).1 q
     exact ⟨hon.trans this.1, this.2⟩
    ·rintro ⟨q1, q2⟩
     have := (lineL_at okds k).2 ⟨hon.symm.trans q1, q2⟩
     rw [this] at q
     exact (Option.some.inj q).symm
   have EI := fun p q w => eqlHg x.id y xok.1 yl p q w
   have EB := fun p q w => eqlHg x.blk C.blk xok.2 Cok.2 p q w
   rw [← hidq] at EI
   rw [← hbq] at EB
   obtain ⟨hk, hhk⟩ : ∃ hk, hk = tHgt ds a := ⟨_, rfl⟩
   rw [← hhk] at hdep hlast hat
   obtain ⟨Cd, hCd⟩ : ∃ Cd, Cd = C.dep := ⟨_, rfl⟩
   rw [← hCd] at hdep hBs
   replace hx := Lib.hid hx
   replace hfo := Lib.hid hfo
   replace ha := Lib.hid ha
   replace hinb := Lib.hid hinb
   replace hidq := Lib.hid hidq
   replace hon := Lib.hid hon
   replace hbq := Lib.hid hbq
   replace hly := Lib.hid hly
   replace hcm := Lib.hid hcm
   replace hFs := Lib.hid hFs
   replace hBs := Lib.hid hBs
   replace hdep := Lib.hid hdep
   replace hlast := Lib.hid hlast
   replace hat := Lib.hid hat
   replace EI := Lib.hid EI
   replace EB := Lib.hid EB
   replace hhk := Lib.hid hhk
   replace hCd := Lib.hid hCd
   replace HFn := Lib.hid HFn
   go_upto_region 13 with (first
    | ((with_reducible refine wpList_loadMF 59 (snc x) rx ?_ _ Tryd.underlying59 ?_ ?_ ?_); rfl; rfl; (rw [x65.out]; kernel_rfl))
    | ((with_reducible refine wpList_storeF 59 ((Below.refl wr.heap.size wr).alloc (Nat.le_refl _) _) (heap_alloc_new _ _) (Nat.le_refl _) (snc x) ?_ ?_ 65 ?_ ?_ ?_ ?_ ?_); rfl; rfl; exact x65.out; kernel_rfl; (rw [List.size_toArray]; exact hyl.out); exact xone.out; intro w12 a12 b12 k12 z12; clear k12; replace z12 := Lib.hid z12))
   obtain ⟨Gx, hGx⟩ : ∃ G, G = wr.heap.size := ⟨_, rfl⟩
   rw [← hGx] at a12 ⊢
   have B12 := br.trans (b12.mono br.size)
   have v12 := v8.below B12
   have rxb : w12.rangeAt Gx 32 (x.blk.map bv) := by have := rg_sn_blk xok a12.range0; rwa [Nat.zero_add] at this
   clear d2 rx
   replace hGx := Lib.hid hGx
   go_upto_region 14 with (first
    | ((with_reducible refine wpList_loadMF 30 (x.blk.map bv) rxb ?_ _ Tryd.underlying30 ?_ ?_ ?_); rfl; rfl; (rw [xk2.out]; kernel_rfl))
    | (go_at_call 16; refine (HFn.out w12 v12).mono ?_; rintro e13 w13 ⟨rfl, b13⟩))
   have B13 := B12.trans (b13.mono B12.size)
   have a13 := a12.below b13
   have i13 := i8.below B13
   have u13 := u8.below B13
   have L13 := rL.below B13
   clear a12 b12 b13 v12 rxb br
   go_wp2
   go_loopw [14, 15, 20] (fun bv' fv kv wr => ∃ (k : Nat) (Bz : Int) (Fv : Bool), k ≤ nL ∧ bv' = .int .i64 Bz ∧ fv = .bool Fv ∧ kv = .int .i64 (k : Int) ∧ Hid (Fv = (F0 || ((inb && (idq && on)) && decide (hk < k)))) ∧ Hid (Bz = ((if ((inb && (idq && on)) && (bq && pq)) && decide (hk < k) then Cd else B0 : Nat) : Int)) ∧ Below w13.heap.size w13 wr) (fun _ _ kv _ => nL - (intOf kv).toNat)
   case atStart => exact ⟨0, _, F0, by omega, rfl, rfl, rfl, Lib.hid (by simp), Lib.hid (by simp), Below.refl _ _⟩
   case round =>
    obtain ⟨k, Bz, Fv, hkn, rfl, rfl, rfl, hF, hB, br⟩ := hrel
    have ar := a13.below br
    have ir := i13.below br
    have ur := u13.below br
    have ri : wr.rangeAt Gx 0 (x.id.map bv) := rg_sn_id ar.range0
    have rb : wr.rangeAt Gx 32 (x.blk.map bv) := by have := rg_sn_blk xok ar.range0; rwa [Nat.zero_add] at this
    have cp := ar.cell 64 _ xc64.out
    have cb : wr.rangeAt GC 32 (C.blk.map bv) := by have := rg_cf_blk Cok ur.range0; rwa [Nat.zero_add] at this
    have cq := ur.cell 64 _ cc64.out
    by_cases hgo : k < nL
    ·have u4 : decide ((k : Int) < (nL : Int)) = true := by simp; omega
     cases inb
     ·
      have hF1 : cF ds tip y N (i + 1) = F0 := by rw [hFs.out]; simp
      have hB1 : cB ds tip y C N (i + 1) = B0 := by rw [hBs.out]; simp
      obtain rfl : Fv = F0 := by rw [hF.out]; simp
      obtain rfl : Bz = (B0 : Int) := by rw [hB.out]; simp
      replace hF1 := Lib.hid hF1
      replace hB1 := Lib.hid hB1
      go_wp2
      refine ⟨⟨i + 1, B0, Fv, by omega, rfl, rfl, by go_num, Lib.hid hF1.out.symm, Lib.hid hB1.out.symm, B13.trans (br.mono B13.size)⟩, ?_⟩
      simp only [intOf]
      omega
     ·cases idq
      ·have hF1 : cF ds tip y N (i + 1) = F0 := by rw [hFs.out]; simp
       have hB1 : cB ds tip y C N (i + 1) = B0 := by rw [hBs.out]; simp
       obtain rfl : Fv = F0 := by rw [hF.out]; simp
       obtain rfl : Bz = (B0 : Int) := by rw [hB.out]; simp
       replace hF1 := Lib.hid hF1
       replace hB1 := Lib.hid hB1
       go_wp2_with (first
        | ((with_reducible refine wpList_loadMH 30 (x.id.map bv) ri ?_ ?_ _ Tryd.underlying30 ?_ ?_ ?_); rfl; rfl; rfl; (rw [xk1.out]; kernel_rfl))
        | ((with_reducible refine wpList_loadG 30 ir ?_ ?_ _ 32 y32.out Tryd.underlying30 ?_ ?_ ?_); rfl; rfl; rfl; kernel_rfl)
        | ((with_reducible refine wpList_binG (op := .eql) (ty := 30) ?_ ?_ ?_ (EI.out _ _ wr) ?_); rfl; rfl; rfl))
       refine ⟨⟨i + 1, B0, Fv, by omega, rfl, rfl, by go_num, Lib.hid hF1.out.symm, Lib.hid hB1.out.symm, B13.trans (br.mono B13.size)⟩, ?_⟩
       simp only [intOf]
       omega
      ·go_upto_region 17 with (first
        | ((with_reducible refine wpList_loadMH 30 (x.id.map bv) ri ?_ ?_ _ Tryd.underlying30 ?_ ?_ ?_); rfl; rfl; rfl; (rw [xk1.out]; kernel_rfl))
        | ((with_reducible refine wpList_loadG 30 ir ?_ ?_ _ 32 y32.out Tryd.underlying30 ?_ ?_ ?_); rfl; rfl; rfl; kernel_rfl)
        | ((with_reducible refine wpList_binG (op := .eql) (ty := 30) ?_ ?_ ?_ (EI.out _ _ wr) ?_); rfl; rfl; rfl))
       obtain ⟨z, hz⟩ : ∃ z, LL[k]? = some z := ⟨_, List.getElem?_eq_getElem (by rw [hlL.out]; exact hgo)⟩
       obtain ⟨bL, oL, rfl, hcl⟩ := ints_atW (L13.below br) hz
       have cz := hcl k z hz
       have hzz := hat.out k z hz
       have n0 : 0 ≤ (k : Int) := by omega
       have n1 : (k : Int) < (nL : Int) := by omega
       clear hcl hz
       by_cases hza : z = a
       ·obtain ⟨h1, h2⟩ := hzz.1 hza
        subst hza
        subst h1
        subst h2
        have e1 : ((z : Int) == (z : Int)) = true := by simp
        have hFn2 : Hid (true = (F0 || ((true && (true && true)) && decide (k < k + 1)))) := Lib.hid (by simp)
        clear hzz
        cases bq
        ·have hBn : Hid (Bz = ((if ((true && (true && true)) && (false && pq)) && decide (k < k + 1) then Cd else B0 : Nat) : Int)) := Lib.hid (by rw [hB.out]; simp)
         go_wp2_with (first
          | ((with_reducible refine wpList_loadMH 30 (x.blk.map bv) rb ?_ ?_ _ Tryd.underlying30 ?_ ?_ ?_); rfl; rfl; rfl; (rw [xk2.out]; kernel_rfl))
          | ((with_reducible refine wpList_loadMH 30 (C.blk.map bv) cb ?_ ?_ _ Tryd.underlying30 ?_ ?_ ?_); rfl; rfl; rfl; (rw [ck2.out]; kernel_rfl))
          | ((with_reducible refine wpList_binG (op := .eql) (ty := 30) ?_ ?_ ?_ (EB.out _ _ wr) ?_); rfl; rfl; rfl))
         refine ⟨⟨k + 1, _, true, by omega, rfl, rfl, by go_num, hFn2, hBn, br⟩, ?_⟩
         simp only [intOf]
         omega
        ·cases pq
         ·have p1 : (x.pos == C.pos) = false := hpq.symm
          have hBn : Hid (Bz = ((if ((true && (true && true)) && (true && false)) && decide (k < k + 1) then Cd else B0 : Nat) : Int)) := Lib.hid (by rw [hB.out]; simp)
          clear hpq
          go_wp2_with (first
           | ((with_reducible refine wpList_loadMH 30 (x.blk.map bv) rb ?_ ?_ _ Tryd.underlying30 ?_ ?_ ?_); rfl; rfl; rfl; (rw [xk2.out]; kernel_rfl))
           | ((with_reducible refine wpList_loadMH 30 (C.blk.map bv) cb ?_ ?_ _ Tryd.underlying30 ?_ ?_ ?_); rfl; rfl; rfl; (rw [ck2.out]; kernel_rfl))
           | ((with_reducible refine wpList_binG (op := .eql) (ty := 30) ?_ ?_ ?_ (EB.out _ _ wr) ?_); rfl; rfl; rfl))
          refine ⟨⟨k + 1, _, true, by omega, rfl, rfl, by go_num, hFn2, hBn, br⟩, ?_⟩
          simp only [intOf]
          omega
         ·have p1 : (x.pos == C.pos) = true := hpq.symm
          have hd := hdep.out rfl
          have hBn : Hid ((nL : Int) - (k : Int) = ((if ((true && (true && true)) && (true && true)) && decide (k < k + 1) then Cd else B0 : Nat) : Int)) := Lib.hid (by simp; omega)
          clear hpq hd
          go_wp2_with (first
           | ((with_reducible refine wpList_loadMH 30 (x.blk.map bv) rb ?_ ?_ _ Tryd.underlying30 ?_ ?_ ?_); rfl; rfl; rfl; (rw [xk2.out]; kernel_rfl))
           | ((with_reducible refine wpList_loadMH 30 (C.blk.map bv) cb ?_ ?_ _ Tryd.underlying30 ?_ ?_ ?_); rfl; rfl; rfl; (rw [ck2.out]; kernel_rfl))
           | ((with_reducible refine wpList_binG (op := .eql) (ty := 30) ?_ ?_ ?_ (EB.out _ _ wr) ?_); rfl; rfl; rfl))
          refine ⟨⟨k + 1, _, true, by omega, rfl, rfl, by go_num, hFn2, hBn, br⟩, ?_⟩
          simp only [intOf]
          omega
       ·have e1 : ((z : Int) == (a : Int)) = false := by simp; omega
        have hne : on = true → k ≠ hk := fun q1 q2 => hza (hzz.2 ⟨q1, q2⟩)
        have hstep : (on && decide (hk < k + 1)) = (on && decide (hk < k)) := by
         cases on
         ·rfl
         ·have := hne rfl
          simp only [Bool.true_and]
          rw [decide_eq_decide]
          omega
        have hFn2 : Hid (Fv = (F0 || ((true && (true && on)) && decide (hk < k + 1)))) := Lib.hid (by rw [hF.out]; simp only [Bool.true_and]; rw [hstep])
        have hBn : Hid (Bz = ((if ((true && (true && on)) && (bq && pq)) && decide (hk < k + 1) then Cd else B0 : Nat) : Int)) := Lib.hid (by
         rw [hB.out]
         have q : (((true && (true && on)) && (bq && pq)) && decide (hk < k + 1)) = (((true && (true && on)) && (bq && pq)) && decide (hk < k)) := by
          simp only [Bool.true_and]
          rw [Bool.and_assoc, Bool.and_comm (bq && pq), ← Bool.and_assoc, hstep, Bool.and_assoc, Bool.and_comm _ (bq && pq), ← Bool.and_assoc]
         rw [q])
        clear hzz hne hstep hza
        go_wp2
        refine ⟨⟨k + 1, _, Fv, by omega, rfl, rfl, by go_num, hFn2, hBn, br⟩, ?_⟩
        simp only [intOf]
        omega
    ·obtain rfl : k = nL := by omega
     have u4 : decide ((k : Int) < (k : Int)) = false := by simp
     have hlk : (on && decide (hk < k)) = on := by
      cases on
      ·rfl
      ·simp [hlast.out rfl]
     have hF1 : Fv = cF ds tip y N (i + 1) := by
      rw [hF.out, hFs.out]
      cases inb <;> cases idq <;> simp only [Bool.true_and, Bool.false_and]
      rw [hlk]
     have hB1 : Bz = ((cB ds tip y C N (i + 1) : Nat) : Int) := by
      rw [hB.out, hBs.out]
      have q : (((inb && (idq && on)) && (bq && pq)) && decide (hk < k)) = ((inb && (idq && on)) && (bq && pq)) := by
       cases inb <;> cases idq <;> simp only [Bool.true_and, Bool.false_and]
       rw [Bool.and_assoc, Bool.and_comm (bq && pq), ← Bool.and_assoc, hlk]
      rw [q]
     replace hF1 := Lib.hid hF1
     replace hlk := Lib.hid hlk
     obtain ⟨Bn, hBn⟩ : ∃ Bn, Bn = cB ds tip y C N (i + 1) := ⟨_, rfl⟩
     rw [← hBn] at hB1
     subst hB1
     replace hBn := Lib.hid hBn
     go_wp2
     refine ⟨⟨i + 1, Bn, Fv, by omega, rfl, rfl, by go_num, hF1, hBn, B13.trans (br.mono B13.size)⟩, ?_⟩
     simp only [intOf]
     omega
  ·obtain rfl : i = nn := by omega
   have u2 : decide ((i : Int) < (i : Int)) = false := by simp
   have hFe := cF_end hCD.out
   have hBe := cB_end hCD.out
   rw [hN.out, ← hF0.out] at hFe
   rw [hN.out, ← hB0.out] at hBe
   subst hFe
   have ur := u8.below br
   have ir := i8.below br
   have cdep := ur.cell 65 _ (cfc_at Cok).2
   have cid : wr.rangeAt GC 0 (C.id.map bv) := rg_cf_id ur.range0
   have ck1 := Lib.hid (show (C.id.map bv).length = 32 by rw [List.length_map, Cok.1])
   have EI := fun p q w => eqlHg C.id y Cok.1 yl p q w
   obtain ⟨Cd, hCd⟩ : ∃ Cd, Cd = C.dep := ⟨_, rfl⟩
   rw [← hCd] at hBe cdep
   replace hCd := Lib.hid hCd
   have BE := B8.trans (br.mono B8.size)
   cases F0
   ·have h0 := hBe.1 rfl
    subst h0
    clear hBe EI
    go_wp2
    go_ret
    exact ⟨rfl, BE⟩
   ·obtain ⟨h1, h2, h3⟩ := hBe.2 rfl
    rw [h3] at EI
    simp only [beq_self_eq_true] at EI
    subst h1
    rw [h3] at cid ck1
    have e5 : decide ((0 : Int) < (B0 : Int)) = true := by simp; omega
    have e6 : decide (0 < B0) = true := by simp; omega
    replace EI := Lib.hid EI
    replace h3 := Lib.hid h3
    clear hBe
    go_wp2_with (first
     | ((with_reducible refine wpList_loadMH 30 (y.map bv) cid ?_ ?_ _ Tryd.underlying30 ?_ ?_ ?_); rfl; rfl; rfl; (rw [ck1.out]; kernel_rfl))
     | ((with_reducible refine wpList_loadG 30 ir ?_ ?_ _ 32 y32.out Tryd.underlying30 ?_ ?_ ?_); rfl; rfl; rfl; kernel_rfl)
     | ((with_reducible refine wpList_binG (op := .eql) (ty := 30) ?_ ?_ ?_ (EI.out _ _ wr) ?_); rfl; rfl; rfl))
    go_ret
    exact ⟨rfl, BE⟩
theorem law_WatchConfirms (S : List (List UInt8 × Sl)) (As At An : Option Addr) (ns cs nt ct nn cn : Nat) (hS : S.length = ns) (hns : ns ≤ maxLen) (N : List Sn) (hN : N.length = nn)
  (l : List Hd) (B : Option Addr) (m d : Nat) (hm : l.length = m) (tip : Int) (htip : -9223372036854775808 ≤ tip ∧ tip ≤ 9223372036854775807) (y : List UInt8) (yl : y.length = 32)
  (w : World) (ht : Tabs w) (rS : RdBss w As S) (rN : RdSns w An N) (rl : RdHds w B l) :
  Calls Tryd.prog 6 #[.agg (wtc As At An ns cs nt ct nn cn).toArray, .slice B m d, .int .i64 tip, .agg (hcs y)] w fun e w' => e = .returned (.bool true) ∧ Below w.heap.size w w' := by
 by_cases hfar : wFew (S.map (·.1)) nt nn = true ∧ m ≤ 20
 ·exact wcon_main S As At An ns cs nt ct nn cn hS hns N hN l B m d hm tip htip y yl w ht rS rN rl hfar.1 hfar.2
 ·exact wcon_far S As At An ns cs nt ct nn cn hS hns N hN l B m d hm tip htip y yl w ht rS rN rl hfar
end Go.Proofs.YtobjgebojhjhnaaDoor
