import Derived.Test.YtobjgebojhjhnaaDoorK0
import Derived.Deep.CutRange
namespace Go.Proofs.YtobjgebojhjhnaaDoor
open Go.RowKit
def lyL (N : List Sn) (p : Sn → Bool) (j : Nat) : Int := match (N.drop j).findIdx? p with
 | some r => ((j + r : Nat) : Int)
 | none => -1
theorem ly_drop {N : List Sn} {j : Nat} {x : Sn} (h : N[j]? = some x) : N.drop j = x :: N.drop (j + 1) := by
 obtain ⟨h1, h2⟩ := List.getElem?_eq_some_iff.1 h
 rw [List.drop_eq_getElem_cons h1, h2]
theorem ly_yes {N : List Sn} {p : Sn → Bool} {j : Nat} {x : Sn} (h : N[j]? = some x) (hp : p x = true) : lyL N p j = (j : Int) := by
 unfold lyL
 rw [ly_drop h, List.findIdx?_cons, hp]
 simp
theorem ly_no {N : List Sn} {p : Sn → Bool} {j : Nat} {x : Sn} (h : N[j]? = some x) (hp : p x = false) : lyL N p j = lyL N p (j + 1) := by
 unfold lyL
 rw [ly_drop h, List.findIdx?_cons, hp]
 cases (N.drop (j + 1)).findIdx? p with
 | none => simp
 | some r => simp; omega
theorem ly_end {N : List Sn} {p : Sn → Bool} : lyL N p N.length = -1 := by
 unfold lyL
 rw [List.drop_length]
 rfl
theorem find_both (p : Sn → Bool) : ∀ N : List Sn, (N.findIdx? p = none ∧ N.find? p = none) ∨ ∃ r s, N.findIdx? p = some r ∧ N[r]? = some s ∧ N.find? p = some s
 | [] => .inl ⟨rfl, rfl⟩
 | x :: N => by
  rw [List.findIdx?_cons, List.find?_cons]
  cases hp : p x with
  | true => exact .inr ⟨0, x, by simp, rfl, by simp⟩
  | false =>
   rcases find_both p N with ⟨h1, h2⟩ | ⟨r, s, h1, h2, h3⟩
   ·exact .inl ⟨by simp [h1], by simp [h2]⟩
   ·exact .inr ⟨r + 1, s, by simp [h1], by simpa using h2, by simp [h3]⟩
theorem ly_depth {ds : List Nd} {tip : Int} {y : List UInt8} {N : List Sn} {C : Cf} {b : Bool} (h : wDepth ds tip y N = (C, b)) : (b = false ∧ C.dep = 0 ∧ lyL N (wLies ds tip y) 0 = -1) ∨ (b = true ∧ ∃ (r : Nat) (s : Sn), N[r]? = some s ∧ lyL N (wLies ds tip y) 0 = (r : Int) ∧ C = confM ds tip s) := by
 unfold wDepth at h
 unfold lyL
 rw [List.drop_zero]
 rcases find_both (wLies ds tip y) N with ⟨h1, h2⟩ | ⟨r, s, h1, h2, h3⟩
 ·rw [h2] at h
  obtain ⟨rfl, rfl⟩ : zeroCf = C ∧ false = b := by simpa using h
  rw [h1]
  exact .inl ⟨rfl, rfl, rfl⟩
 ·rw [h3] at h
  obtain ⟨rfl, rfl⟩ : confM ds tip s = C ∧ true = b := by simpa using h
  rw [h1]
  exact .inr ⟨rfl, r, s, h2, by simp, rfl⟩
theorem conf_dep_le {ds : List Nd} (_ : TOk ds) (tip : Int) (s : Sn) : (confM ds tip s).dep ≤ (lineL ds tip).length := by
 unfold confM
 cases hf : tFind ds s.blk with
 | none => exact Nat.zero_le _
 | some a =>
  show mDep ds tip a ≤ _
  cases ho : mOn ds tip a with
  | true => have := lineL_dep ho; omega
  | false => unfold mDep; rw [if_neg (by rw [ho]; decide)]; exact Nat.zero_le _
set_option maxRecDepth 100000 in
set_option maxHeartbeats 8000000 in
theorem wall_far (S : List (List UInt8 × Sl)) (As At An : Option Addr) (ns cs nt ct nn cn : Nat) (hS : S.length = ns) (hns : ns ≤ maxLen) (N : List Sn) (hN : N.length = nn)
  (l : List Hd) (B : Option Addr) (m d : Nat) (hm : l.length = m) (tip : Int) (_ : -9223372036854775808 ≤ tip ∧ tip ≤ 9223372036854775807) (y : List UInt8) (_ : y.length = 32)
  (w : World) (ht : Tabs w) (rS : RdBss w As S) (_ : RdSns w An N) (_ : RdHds w B l) (hfar : ¬ (wFew (S.map (·.1)) nt nn = true ∧ m ≤ 20)) :
  Calls Tryd.prog 7 #[.agg (wtc As At An ns cs nt ct nn cn).toArray, .slice B m d, .int .i64 tip, .agg (hcs y)] w fun e w' => e = .returned (.bool true) ∧ Below w.heap.size w w' := by
 by_cases hfew : wFew (S.map (·.1)) nt nn = true
 ·have h20 : 20 < m := by
   rcases Nat.lt_or_ge 20 m with z | z
   ·exact z
   ·exact absurd ⟨hfew, z⟩ hfar
  have t3 : decide ((20 : Int) < (m : Int)) = true := by simp; omega
  have t3' : decide (20 < m) = true := by simp; omega
  clear hfar
  replace hfew := Lib.hid hfew
  have HA := fun w' t => awake21 w' t
  have HF := fun w' r => WFew S As At An ns cs nt ct nn cn hS hns w' r
  rw [hfew.out] at HF
  obtain ⟨W, hW⟩ : ∃ W, W = (w.alloc (.cells (wtc As At An ns cs nt ct nn cn).toArray 26)).alloc (.cells (y.map bv).toArray 30) := ⟨_, rfl⟩
  obtain ⟨H, hH⟩ : ∃ H, H = w.heap.size := ⟨_, rfl⟩
  have aW : Av W H 26 (wtc As At An ns cs nt ct nn cn) := by rw [hW, hH]; exact heap_alloc2_old _ _ _
  have iW : Av W (H + 1) 30 (y.map bv) := by rw [hW, hH]; exact heap_alloc2_new _ _ _
  have bW : Below w.heap.size w W := by rw [hW]; exact ((Below.refl _ _).alloc (Nat.le_refl _) _).alloc (by simp) _
  have htW := ht.below bW
  have rSW := rS.below bW
  replace HA := Lib.hid HA
  replace HF := Lib.hid HF
  replace hW := Lib.hid hW
  replace hH := Lib.hid hH
  replace hS := Lib.hid hS
  replace hN := Lib.hid hN
  replace hm := Lib.hid hm
  go_enter Tryd.func7, Tryd.ntmps7
  go_upto_region 1 with fail
  rw [← hH.out]
  rw [show (w.alloc (.cells (wtc As At An ns cs nt ct nn cn).toArray 26)).alloc (.cells (hcs y) 30) = W from hW.out.symm]
  go_upto_region 2 with (go_at_call 9; refine (HA.out W htW).mono ?_; rintro e w1 ⟨rfl, b1⟩)
  have a1 := aW.below b1
  have i1 := iW.below b1
  have rS1 := rSW.below b1
  have B1 := bW.trans (b1.mono bW.size)
  have l3 : (wtc As At An ns cs nt ct nn cn).length = 3 := rfl
  go_wp2_with (first
   | ((with_reducible refine wpList_loadF 26 a1 ?_ _ 3 l3 Tryd.underlying26 ?_ ?_ ?_); rfl; rfl; kernel_rfl)
   | (go_at_call 10; refine (HF.out w1 rS1).mono ?_; rintro e2 w2 ⟨rfl, b2⟩))
  go_ret
  exact ⟨rfl, B1.trans (b2.mono B1.size)⟩
 ·rw [Bool.not_eq_true] at hfew
  clear hfar
  have HA := fun w' t => awake21 w' t
  have HF := fun w' r => WFew S As At An ns cs nt ct nn cn hS hns w' r
  rw [hfew] at HF
  clear hfew
  obtain ⟨W, hW⟩ : ∃ W, W = (w.alloc (.cells (wtc As At An ns cs nt ct nn cn).toArray 26)).alloc (.cells (y.map bv).toArray 30) := ⟨_, rfl⟩
  obtain ⟨H, hH⟩ : ∃ H, H = w.heap.size := ⟨_, rfl⟩
  have aW : Av W H 26 (wtc As At An ns cs nt ct nn cn) := by rw [hW, hH]; exact heap_alloc2_old _ _ _
  have iW : Av W (H + 1) 30 (y.map bv) := by rw [hW, hH]; exact heap_alloc2_new _ _ _
  have bW : Below w.heap.size w W := by rw [hW]; exact ((Below.refl _ _).alloc (Nat.le_refl _) _).alloc (by simp) _
  have htW := ht.below bW
  have rSW := rS.below bW
  replace HA := Lib.hid HA
  replace HF := Lib.hid HF
  replace hW := Lib.hid hW
  replace hH := Lib.hid hH
  replace hS := Lib.hid hS
  replace hN := Lib.hid hN
  replace hm := Lib.hid hm
  go_enter Tryd.func7, Tryd.ntmps7
  go_upto_region 1 with fail
  rw [← hH.out]
  rw [show (w.alloc (.cells (wtc As At An ns cs nt ct nn cn).toArray 26)).alloc (.cells (hcs y) 30) = W from hW.out.symm]
  go_upto_region 2 with (go_at_call 9; refine (HA.out W htW).mono ?_; rintro e w1 ⟨rfl, b1⟩)
  have a1 := aW.below b1
  have i1 := iW.below b1
  have rS1 := rSW.below b1
  have B1 := bW.trans (b1.mono bW.size)
  have l3 : (wtc As At An ns cs nt ct nn cn).length = 3 := rfl
  go_wp2_with (first
   | ((with_reducible refine wpList_loadF 26 a1 ?_ _ 3 l3 Tryd.underlying26 ?_ ?_ ?_); rfl; rfl; kernel_rfl)
   | (go_at_call 10; refine (HF.out w1 rS1).mono ?_; rintro e2 w2 ⟨rfl, b2⟩))
  go_ret
  exact ⟨rfl, B1.trans (b2.mono B1.size)⟩
set_option maxRecDepth 100000 in
set_option maxHeartbeats 16000000 in
theorem wall_main (S : List (List UInt8 × Sl)) (As At An : Option Addr) (ns cs nt ct nn cn : Nat) (hS : S.length = ns) (hns : ns ≤ maxLen) (N : List Sn) (hN : N.length = nn)
  (l : List Hd) (B : Option Addr) (m d : Nat) (hm : l.length = m) (tip : Int) (htip : -9223372036854775808 ≤ tip ∧ tip ≤ 9223372036854775807) (y : List UInt8) (yl : y.length = 32)
  (w : World) (ht : Tabs w) (rS : RdBss w As S) (rN : RdSns w An N) (rl : RdHds w B l) (hfew : wFew (S.map (·.1)) nt nn = true) (hm20 : m ≤ 20) :
  Calls Tryd.prog 7 #[.agg (wtc As At An ns cs nt ct nn cn).toArray, .slice B m d, .int .i64 tip, .agg (hcs y)] w fun e w' => e = .returned (.bool true) ∧ Below w.heap.size w w' := by
 obtain ⟨_, hns3, hnt60, hnn60⟩ := wFew_iff.1 hfew
 have t3 : decide ((20 : Int) < (m : Int)) = false := by simp; omega
 have t3' : decide (20 < m) = false := by simp; omega
 have HPl := fun w' t r => Plainly l B m d hm (by omega) w' t r
 have okds : TOk (mAll 60 l) := mAll_ok 60 l fun h hh => rl.2 h hh
 have hdl : (mAll 60 l).length ≤ 20 := by have := mAll_len 60 l; omega
 obtain ⟨ds, hds⟩ : ∃ ds, ds = mAll 60 l := ⟨_, rfl⟩
 rw [← hds] at HPl okds hdl
 have HE := fun w' r => Eye As At An ns cs nt ct nn cn N hN (by omega) w' r
 have y32 := Lib.hid (show (y.map bv).length = 32 by rw [List.length_map, yl])
 replace hfew := Lib.hid hfew
 clear hns3
 have HA := fun w' t => awake21 w' t
 have HF := fun w' r => WFew S As At An ns cs nt ct nn cn hS hns w' r
 rw [hfew.out] at HF
 obtain ⟨W, hW⟩ : ∃ W, W = (w.alloc (.cells (wtc As At An ns cs nt ct nn cn).toArray 26)).alloc (.cells (y.map bv).toArray 30) := ⟨_, rfl⟩
 obtain ⟨H, hH⟩ : ∃ H, H = w.heap.size := ⟨_, rfl⟩
 have aW : Av W H 26 (wtc As At An ns cs nt ct nn cn) := by rw [hW, hH]; exact heap_alloc2_old _ _ _
 have iW : Av W (H + 1) 30 (y.map bv) := by rw [hW, hH]; exact heap_alloc2_new _ _ _
 have bW : Below w.heap.size w W := by rw [hW]; exact ((Below.refl _ _).alloc (Nat.le_refl _) _).alloc (by simp) _
 have htW := ht.below bW
 have rSW := rS.below bW
 replace HA := Lib.hid HA
 replace HF := Lib.hid HF
 replace hW := Lib.hid hW
 replace hH := Lib.hid hH
 replace hS := Lib.hid hS
 replace hN := Lib.hid hN
 replace hm := Lib.hid hm
 replace HPl := Lib.hid HPl
 replace HE := Lib.hid HE
 replace hds := Lib.hid hds
 go_enter Tryd.func7, Tryd.ntmps7
 go_upto_region 1 with fail
 rw [← hH.out]
 rw [show (w.alloc (.cells (wtc As At An ns cs nt ct nn cn).toArray 26)).alloc (.cells (hcs y) 30) = W from hW.out.symm]
 go_upto_region 2 with (go_at_call 9; refine (HA.out W htW).mono ?_; rintro e w1 ⟨rfl, b1⟩)
 have a1 := aW.below b1
 have i1 := iW.below b1
 have rS1 := rSW.below b1
 have B1 := bW.trans (b1.mono bW.size)
 have l3 : (wtc As At An ns cs nt ct nn cn).length = 3 := rfl
 go_upto_region 4 with (first
  | ((with_reducible refine wpList_loadF 26 a1 ?_ _ 3 l3 Tryd.underlying26 ?_ ?_ ?_); rfl; rfl; kernel_rfl)
  | (go_at_call 10; refine (HF.out w1 rS1).mono ?_; rintro e2 w2 ⟨rfl, b2⟩))
 have B2 := B1.trans (b2.mono B1.size)
 have t2' := ht.below B2
 have rl2 := rl.below B2
 go_upto_region 5 with (go_at_call 11; refine (HPl.out w2 t2' rl2).mono ?_; rintro e2 wr ⟨vt, rfl, hvR, b3⟩)
 have BR := B2.trans (b3.mono B2.size)
 have aR := (a1.below b2).below b3
 have iR := (i1.below b2).below b3
 have rNR := rN.below BR
 have HD := fun A' c' w' hv r => WDepth As At A' ns cs nt ct nn c' N hN.out (by omega) vt ds okds tip htip y yl w' hv r
 obtain ⟨C, okb, hCD⟩ : ∃ C okb, wDepth ds tip y N = (C, okb) := ⟨_, _, rfl⟩
 rw [hCD] at HD
 dsimp only at HD
 have Cok : C.ok := wDepth_ok rN.2 hCD
 have C66 := Lib.hid (cfc_length Cok)
 have Cone := Lib.hid (List.all_eq_true.2 (cfc_one C))
 have zcf66 : (cfc zeroCf).length = 66 := rfl
 replace HD := Lib.hid HD
 replace hCD := Lib.hid hCD
 clear a1 i1 rS1 b1 b2 b3 aW iW rSW htW HF HA HPl t2' rl2 B1 B2 bW
 have HAl := fun A' c' w' hv r => WAll As At A' ns cs nt ct nn c' N hN.out (by omega) vt ds okds tip htip w' hv r
 obtain ⟨cs', hcs'⟩ : ∃ q, q = N.map (confM ds tip) := ⟨_, rfl⟩
 rw [← hcs'] at HAl
 replace HAl := Lib.hid HAl
 replace hcs' := Lib.hid hcs'
 go_upto_region 6 with (first
  | ((with_reducible refine wpList_loadF 26 aR ?_ _ 3 l3 Tryd.underlying26 ?_ ?_ ?_); rfl; rfl; kernel_rfl)
  | (go_at_call 13; refine (HE.out wr rNR).mono ?_; rintro e4 w4 ⟨A3, c3, rfl, rE4, b4⟩; have v4 := hvR.below b4)
  | (go_at_call 28; refine (HAl.out A3 c3 w4 v4 rE4).mono ?_; rintro e5 w5 ⟨_, rfl, o5, b5⟩; obtain ⟨A4, c4, rfl, _, _⟩ := own_form o5))
 have b45 := b4.trans (b5.mono b4.size)
 have B5 := BR.trans (b45.mono BR.size)
 have a5 := aR.below b45
 have i5 := iR.below b45
 have rN5 := rN.below B5
 have hv5 := hvR.below b45
 have rC5 := own_rd o5
 clear aR iR rNR b4 b5 b45 v4 rE4 o5 BR HAl
 refine wp_region_relL [(8, 10)] 10 [(1, EyeW As At ns cs nt ct nn N), (9, CnfW w5.heap.size)] Ext (by kernel_rfl) (by simp only [lates, late, List.push_toArray, List.cons_append, List.nil_append]; rfl) (by kernel_rfl) (fun _ _ _ _ _ h => h) (by kernel_rfl) (by kernel_rfl) (by kernel_rfl) (by kernel_rfl) Ext.refl Ext.trans (by intro p hp v w w' hR; simp only [List.mem_cons, List.not_mem_nil, or_false] at hp; rcases hp with rfl | rfl; exact EyeW.mono hR; exact CnfW.mono hR) ?_
 refine ZP (c := .agg (wtc As At An ns cs nt ct nn cn).toArray) (fun w hw => exec_loadAv (a5.below hw.drew) _ _ rfl rfl _ 3 rfl Tryd.underlying26 rfl (by kernel_rfl)) ?_
 refine relWord _ rfl (fun w hw => fill_none rfl (relOp_yes rfl (relRes_enterW 13 #[.agg (wtc As At An ns cs nt ct nn cn).toArray] (by go_simp) ((HE.out w (rN5.below hw.drew)).mono ?_)))) ?_
 ·rintro e w' ⟨A', c', rfl, r', b'⟩
  exact ⟨_, rfl, b', A', c', rfl, r'⟩
 refine ZM ?_
 refine ZM ?_
 refine ZP (c := .agg (y.map bv).toArray) (fun w hw => exec_loadAv (i5.below hw.drew) _ _ rfl rfl _ 32 y32.out Tryd.underlying30 rfl (by kernel_rfl)) ?_
 refine relOn rfl rfl (c := .tuple #[.agg (cfc C).toArray, .bool okb]) (fun w hw => fill_take rfl rfl fun v hv => fill_none rfl ?_) (by simp only [Zs]; rfl) ?_
 ·obtain ⟨A', c', rfl, r'⟩ := hv
  refine relOp_yes rfl (relRes_enterW 26 #[.agg (wtc As At A' ns cs nt ct nn c').toArray, vt, .int .i64 tip, .agg (hcs y)] (by go_simp) ?_)
  exact (HD.out A' c' w (hv5.below hw.drew) r').mono fun _ _ h => ⟨_, h.1, h.2, rfl⟩
 refine ZM ?_
 refine ZP (c := .agg (cfc C).toArray) (fun w _ => by go_simp; first | done | rfl) ?_
 refine ZP (c := .bool okb) (fun w _ => by go_simp; first | done | rfl) ?_
 refine relWord _ rfl (fun w hw => fill_none rfl (relOp_yes rfl ?_)) ?_
 ·refine ⟨(Below.refl _ _).alloc (Nat.le_refl _) _, w.heap.size, rfl, hw.drew.size, ?_⟩
  unfold Av
  rw [← zeros_Cf]
  exact heap_alloc_new _ _
 refine relEnd fun w6 hw6 => fill_take rfl rfl fun v1 hv1 => fill_take rfl rfl fun v2 hv2 => fill_end ?_
 obtain ⟨GC, rfl, hGC, zC⟩ := hv2
 clear hv1
 simp only [List.set_cons_succ, List.set_cons_zero, List.drop_succ_cons, List.drop_zero]
 have bC : Below w5.heap.size w5 w6 := hw6.drew
 go_upto_region 7 with ((with_reducible refine wpList_storeFA 84 bC zC hGC (cfc C) ?_ ?_ 66 C66.out ?_ ?_ ?_ ?_); rfl; rfl; kernel_rfl; exact zcf66; exact Cone.out; intro w7 uC bw7 kw7 zw7)
 clear bC zC kw7 zw7
 have B7 := B5.trans (bw7.mono B5.size)
 have hll := lineL_le okds tip
 have hdl2 := fun s => conf_dep_le okds tip s
 have HL := fun w' r => TLine vt ds okds tip htip w' r
 obtain ⟨LL, hLL⟩ : ∃ LL, LL = lineL ds tip := ⟨_, rfl⟩
 rw [← hLL] at HL hll hdl2
 have hv7 := hv5.below bw7
 have a7 := a5.below bw7
 have d7 := a7.cell 2 (.slice An nn cn) rfl
 replace HL := Lib.hid HL
 replace hLL := Lib.hid hLL
 replace hdl2 := Lib.hid hdl2
 go_upto_region 11 with (go_at_call 27; refine (HL.out w7 hv7).mono ?_; rintro e8 w8 ⟨⟨_, rfl, AL, nL, cL, rfl, hlL, rL⟩, b8⟩)
 have B8 := B7.trans (b8.mono B7.size)
 have a8 := a7.below b8
 have i8 := (i5.below bw7).below b8
 have cf8 := uC.below b8
 have N8 := rN.below B8
 have C8 := (rC5.below bw7).below b8
 have hnL : nL ≤ 20 := by omega
 have hdn := fun s => by have := hdl2.out s; rw [hlL] at this; exact this
 have hzs := zeros_Cf
 obtain ⟨ys, hyy⟩ : ∃ ys, ys = cfc zeroCf := ⟨_, rfl⟩
 have hyl := Lib.hid (show ys.length = 66 by rw [hyy]; rfl)
 rw [← hyy] at hzs
 clear hyy zcf66
 replace hlL := Lib.hid hlL
 replace hdn := Lib.hid hdn
 clear a5 i5 rN5 hv5 uC hv7 a7 d7 rC5 bw7 b8 HE HD HL hdl2 hw6 B7 rL
 go_wp2
 go_loopw [14, 16] (fun fv iv wr => ∃ (I Fz : Int), -1 ≤ I ∧ I < nn ∧ fv = .int .i64 Fz ∧ iv = .int .i64 I ∧ Hid (Fz = lyL N (wLies ds tip y) (I + 1).toNat) ∧ Below w8.heap.size w8 wr) (fun _ iv _ => (intOf iv + 1).toNat)
 case atStart => exact ⟨(nn : Int) - 1, -1, by omega, by omega, rfl, rfl, Lib.hid (by rw [show ((nn : Int) - 1 + 1).toNat = N.length by rw [hN.out]; omega]; exact ly_end.symm), Below.refl _ _⟩
 case round =>
  obtain ⟨I, Fz, hI1, hI2, rfl, rfl, hFz, br⟩ := hrel
  by_cases hI : 0 ≤ I
  ·obtain ⟨i, rfl⟩ : ∃ i : Nat, I = (i : Int) := ⟨I.toNat, by omega⟩
   have hlt : i < nn := by omega
   have u2 : decide ((0 : Int) ≤ (i : Int)) = true := by simp
   have m0 : 0 ≤ (i : Int) := by omega
   have m1 : (i : Int) < (nn : Int) := by omega
   obtain ⟨s, hx⟩ : ∃ x, N[i]? = some x := ⟨_, List.getElem?_eq_getElem (by rw [hN.out]; exact hlt)⟩
   have hFz2 : Fz = lyL N (wLies ds tip y) (i + 1) := by rw [hFz.out]; congr 1
   obtain ⟨bN, oN, rfl⟩ := N8.adr (by rw [hN.out]; omega)
   obtain ⟨_, sok⟩ := N8.nth i s hx
   obtain ⟨Q, hQ⟩ : ∃ Q, Q = confM ds tip s := ⟨_, rfl⟩
   have Qok : Q.ok := by rw [hQ]; exact confM_ok sok
   have hQi : Q.id = s.id := by rw [hQ]; rfl
   have hQb : Q.blk = s.blk := by rw [hQ]; rfl
   have hQp : Q.pos = s.pos := by rw [hQ]; rfl
   have hx2 : cs'[i]? = some Q := by rw [hcs'.out, List.getElem?_map, hx, hQ]; rfl
   have hcok : ∀ e ∈ cs', (cfc e).length = 66 := fun e he => by
    rw [hcs'.out, List.mem_map] at he
    obtain ⟨t, ht, rfl⟩ := he
    exact cfc_length (confM_ok (rN.2 t ht))
   obtain ⟨bA, oA, rfl⟩ := C8.someA (fun e => by
    have h1 := flat_length cfc 66 cs' hcok
    have h2 : cs'.flatMap cfc = [] := e
    have h3 : cs'.length = nn := by rw [hcs'.out, List.length_map, hN.out]
    rw [h2, h3, List.length_nil] at h1
    omega)
   have rQ : wr.rangeAt bA (oA + i * 66) (cfc Q) := Rd.piece cfc 66 cs' hcok (C8.below br) i Q hx2
   have Q66 := Lib.hid (cfc_length Qok)
   have Qone := Lib.hid (List.all_eq_true.2 (cfc_one Q))
   have xk1 := Lib.hid (show (s.id.map bv).length = 32 by rw [List.length_map, sok.1])
   have xk2 := Lib.hid (show (s.blk.map bv).length = 32 by rw [List.length_map, sok.2])
   obtain ⟨idq, hidq⟩ : ∃ idq, idq = (s.id == y) := ⟨_, rfl⟩
   obtain ⟨Dp, hDp⟩ : ∃ Dp, Dp = Q.dep := ⟨_, rfl⟩
   have hly : wLies ds tip y s = (idq && decide (0 < Dp)) := by unfold wLies; rw [hidq, hDp, hQ]
   have hDn : Dp ≤ nL := by rw [hDp, hQ]; exact hdn.out s
   have d1 : decide ((Dp : Int) < 0) = false := by simp
   have d2 : decide ((nL : Int) < (Dp : Int)) = false := by simp; omega
   have d2' : decide (nL < Dp) = false := by simp; omega
   have EN := fun p q w => neqHg s.id s.id sok.1 sok.1 p q w
   have EM := fun p q w => neqHg s.blk s.blk sok.2 sok.2 p q w
   have EI := fun p q w => eqlHg s.id y sok.1 yl p q w
   simp only [beq_self_eq_true, Bool.not_true] at EN EM
   rw [← hidq] at EI
   replace hx := Lib.hid hx
   replace hx2 := Lib.hid hx2
   replace hQ := Lib.hid hQ
   replace hidq := Lib.hid hidq
   replace hDp := Lib.hid hDp
   replace hly := Lib.hid hly
   replace EN := Lib.hid EN
   replace EM := Lib.hid EM
   replace EI := Lib.hid EI
   replace hQi := Lib.hid hQi
   replace hQb := Lib.hid hQb
   replace hQp := Lib.hid hQp
   replace hcok := Lib.hid hcok
   replace hFz2 := Lib.hid hFz2
   clear hFz
   go_upto_region 15 with (first
    | ((with_reducible refine wpList_loadMF 84 (cfc Q) rQ ?_ _ Tryd.underlying84 ?_ ?_ ?_); rfl; rfl; (rw [Q66.out]; kernel_rfl))
    | ((with_reducible refine wpList_storeF 84 ((Below.refl wr.heap.size wr).alloc (Nat.le_refl _) _) (heap_alloc_new _ _) (Nat.le_refl _) (cfc Q) ?_ ?_ 66 ?_ ?_ ?_ ?_ ?_); rfl; rfl; exact Q66.out; kernel_rfl; (rw [List.size_toArray]; exact hyl.out); exact Qone.out; intro w12 a12 b12 k12 z12; clear k12; replace z12 := Lib.hid z12))
   obtain ⟨Gx, hGx⟩ : ∃ G, G = wr.heap.size := ⟨_, rfl⟩
   rw [← hGx] at a12 ⊢
   have B12 := br.trans (b12.mono br.size)
   replace hGx := Lib.hid hGx
   have CI : ∀ w', Below w12.heap.size w12 w' → w'.rangeAt Gx 0 (s.id.map bv) := fun w' b => by have := rg_cf_id (a12.below b).range0; rwa [hQi.out] at this
   have CB : ∀ w', Below w12.heap.size w12 w' → w'.rangeAt Gx 32 (s.blk.map bv) := fun w' b => by have := rg_cf_blk Qok (a12.below b).range0; rwa [Nat.zero_add, hQb.out] at this
   have CP : ∀ w', Below w12.heap.size w12 w' → w'.cell? ⟨Gx, 64, none⟩ = some (.int .i64 s.pos) := fun w' b => by have := (a12.below b).cell 64 _ (cfc_at Qok).1; rwa [hQp.out] at this
   have CD : ∀ w', Below w12.heap.size w12 w' → w'.cell? ⟨Gx, 65, none⟩ = some (.int .i64 (Dp : Int)) := fun w' b => by have := (a12.below b).cell 65 _ (cfc_at Qok).2; rwa [← hDp.out] at this
   have CH : ∀ w', Below w12.heap.size w12 w' → w'.cell? ⟨H, 2, none⟩ = some (.slice (some ⟨bN, oN, none⟩) nn cn) := fun w' b => ((a8.below B12).below b).cell 2 _ rfl
   have rs : ∀ w', Below w12.heap.size w12 w' → w'.rangeAt bN (oN + i * 65) (snc s) := fun w' b => (((N8.below B12).below b).nth i s hx.out).1
   have DI : ∀ w', Below w12.heap.size w12 w' → w'.rangeAt bN (oN + i * 65) (s.id.map bv) := fun w' b => rg_sn_id (rs w' b)
   have DB : ∀ w', Below w12.heap.size w12 w' → w'.rangeAt bN (oN + i * 65 + 32) (s.blk.map bv) := fun w' b => rg_sn_blk sok (rs w' b)
   have DP : ∀ w', Below w12.heap.size w12 w' → w'.cell? ⟨bN, oN + i * 65 + 64, none⟩ = some (.int .i64 s.pos) := fun w' b => (rs w' b) 64 _ (snc_pos sok)
   clear rs rQ
   replace CI := Lib.hid CI
   replace CB := Lib.hid CB
   replace CP := Lib.hid CP
   replace CD := Lib.hid CD
   replace CH := Lib.hid CH
   replace DI := Lib.hid DI
   replace DB := Lib.hid DB
   replace DP := Lib.hid DP
   refine wp_region_rel [] Ext (by kernel_rfl) (by kernel_rfl) (by kernel_rfl) Ext.refl Ext.trans (by intro p hp; cases hp) ?_
   refine ZP (c := .pointer (some ⟨Gx, 0, none⟩)) (fun w _ => by go_simp; first | done | rfl) ?_
   refine ZP (c := .agg (s.id.map bv).toArray) (fun w hw => exec_load_mid _ _ rfl Gx (0) rfl (s.id.map bv) _ (CI.out _ hw.drew) Tryd.underlying30 rfl (by rw [xk1.out]; kernel_rfl)) ?_
   refine ZP (c := .pointer (some ⟨H, 2, none⟩)) (fun w _ => by go_simp; first | done | rfl) ?_
   refine ZP (c := .slice (some ⟨bN, oN, none⟩) nn cn) (fun w hw => by have := CH.out _ hw.drew; go_simp; first | done | rfl) ?_
   refine ZM ?_
   refine ZP (c := .pointer (some ⟨bN, oN + i * 65, none⟩)) (fun w _ => by have := m0; have := m1; go_simp; first | done | rfl) ?_
   refine ZP (c := .pointer (some ⟨bN, oN + i * 65, none⟩)) (fun w _ => by go_simp; first | done | rfl) ?_
   refine ZP (c := .agg (s.id.map bv).toArray) (fun w hw => exec_load_mid _ _ rfl bN (oN + i * 65) rfl (s.id.map bv) _ (DI.out _ hw.drew) Tryd.underlying30 rfl (by rw [xk1.out]; kernel_rfl)) ?_
   refine relBin Ext.refl rfl rfl rfl rfl _ _ _ _ _ rfl (by conv => lhs; whnf) (by conv => lhs; whnf) (c := .bool false) (fun w => EN.out _ _ w) (by simp only [Zs]; rfl) ?_
   refine ZM ?_
   refine ZP (c := .pointer (some ⟨Gx, 32, none⟩)) (fun w _ => by go_simp; first | done | rfl) ?_
   refine ZP (c := .agg (s.blk.map bv).toArray) (fun w hw => exec_load_mid _ _ rfl Gx (32) rfl (s.blk.map bv) _ (CB.out _ hw.drew) Tryd.underlying30 rfl (by rw [xk2.out]; kernel_rfl)) ?_
   refine ZP (c := .pointer (some ⟨H, 2, none⟩)) (fun w _ => by go_simp; first | done | rfl) ?_
   refine ZP (c := .slice (some ⟨bN, oN, none⟩) nn cn) (fun w hw => by have := CH.out _ hw.drew; go_simp; first | done | rfl) ?_
   refine ZM ?_
   refine ZP (c := .pointer (some ⟨bN, oN + i * 65, none⟩)) (fun w _ => by have := m0; have := m1; go_simp; first | done | rfl) ?_
   refine ZP (c := .pointer (some ⟨bN, oN + i * 65 + 32, none⟩)) (fun w _ => by go_simp; first | done | rfl) ?_
   refine ZP (c := .agg (s.blk.map bv).toArray) (fun w hw => exec_load_mid _ _ rfl bN (oN + i * 65 + 32) rfl (s.blk.map bv) _ (DB.out _ hw.drew) Tryd.underlying30 rfl (by rw [xk2.out]; kernel_rfl)) ?_
   refine relBin Ext.refl rfl rfl rfl rfl _ _ _ _ _ rfl (by conv => lhs; whnf) (by conv => lhs; whnf) (c := .bool false) (fun w => EM.out _ _ w) (by simp only [Zs]; rfl) ?_
   refine ZK ?_
   refine ZM ?_
   refine ZP (c := .pointer (some ⟨Gx, 64, none⟩)) (fun w _ => by go_simp; first | done | rfl) ?_
   refine ZP (c := .int .i64 s.pos) (fun w hw => by have := CP.out _ hw.drew; go_simp; first | done | rfl) ?_
   refine ZP (c := .pointer (some ⟨H, 2, none⟩)) (fun w _ => by go_simp; first | done | rfl) ?_
   refine ZP (c := .slice (some ⟨bN, oN, none⟩) nn cn) (fun w hw => by have := CH.out _ hw.drew; go_simp; first | done | rfl) ?_
   refine ZM ?_
   refine ZP (c := .pointer (some ⟨bN, oN + i * 65, none⟩)) (fun w _ => by have := m0; have := m1; go_simp; first | done | rfl) ?_
   refine ZP (c := .pointer (some ⟨bN, oN + i * 65 + 64, none⟩)) (fun w _ => by go_simp; first | done | rfl) ?_
   refine ZP (c := .int .i64 s.pos) (fun w hw => by have := DP.out _ hw.drew; go_simp; first | done | rfl) ?_
   refine ZP (c := .bool false) (fun w _ => by go_simp; first | done | rfl) ?_
   refine ZK ?_
   refine ZM ?_
   refine ZP (c := .pointer (some ⟨Gx, 65, none⟩)) (fun w _ => by go_simp; first | done | rfl) ?_
   refine ZP (c := .int .i64 (Dp : Int)) (fun w hw => by have := CD.out _ hw.drew; go_simp; first | done | rfl) ?_
   refine ZP (c := .bool false) (fun w _ => by have := d1; go_simp; first | done | rfl) ?_
   refine ZK ?_
   refine ZM ?_
   refine ZP (c := .pointer (some ⟨Gx, 65, none⟩)) (fun w _ => by go_simp; first | done | rfl) ?_
   refine ZP (c := .int .i64 (Dp : Int)) (fun w hw => by have := CD.out _ hw.drew; go_simp; first | done | rfl) ?_
   refine ZM ?_
   refine ZP (c := .bool false) (fun w _ => by have := d2; go_simp; first | done | rfl) ?_
   refine ZK ?_
   refine relEnd fun w13 hw13 => fill_end ?_
   have b13 := hw13.drew
   have B13 := B12.trans (b13.mono B12.size)
   have ri := CI.out _ b13
   have cd := CD.out _ b13
   have i13 := i8.below B13
   clear CI CB CP CD CH DI DB DP b12
   cases idq
   ·have hF1 : Fz = lyL N (wLies ds tip y) i := by rw [hFz2.out]; exact (ly_no hx.out (by rw [hly.out]; rfl)).symm
    replace hF1 := Lib.hid hF1
    go_wp2_with (first
     | ((with_reducible refine wpList_loadMH 30 (s.id.map bv) ri ?_ ?_ _ Tryd.underlying30 ?_ ?_ ?_); rfl; rfl; rfl; (rw [xk1.out]; kernel_rfl))
     | ((with_reducible refine wpList_loadG 30 i13 ?_ ?_ _ 32 y32.out Tryd.underlying30 ?_ ?_ ?_); rfl; rfl; rfl; kernel_rfl)
     | ((with_reducible refine wpList_binG (op := .eql) (ty := 30) ?_ ?_ ?_ (EI.out _ _ w13) ?_); rfl; rfl; rfl))
    refine ⟨⟨(i : Int) - 1, Fz, by omega, by omega, rfl, rfl, Lib.hid (by rw [show ((i : Int) - 1 + 1).toNat = i by omega]; exact hF1.out), B13⟩, ?_⟩
    simp only [intOf]
    omega
   ·by_cases hd : 0 < Dp
    ·have e1 : decide ((0 : Int) < (Dp : Int)) = true := by simp; omega
     have e1' : decide (0 < Dp) = true := by simp; omega
     have hF1 : (i : Int) = lyL N (wLies ds tip y) i := (ly_yes hx.out (by rw [hly.out, e1']; rfl)).symm
     replace hF1 := Lib.hid hF1
     go_wp2_with (first
      | ((with_reducible refine wpList_loadMH 30 (s.id.map bv) ri ?_ ?_ _ Tryd.underlying30 ?_ ?_ ?_); rfl; rfl; rfl; (rw [xk1.out]; kernel_rfl))
      | ((with_reducible refine wpList_loadG 30 i13 ?_ ?_ _ 32 y32.out Tryd.underlying30 ?_ ?_ ?_); rfl; rfl; rfl; kernel_rfl)
      | ((with_reducible refine wpList_binG (op := .eql) (ty := 30) ?_ ?_ ?_ (EI.out _ _ w13) ?_); rfl; rfl; rfl))
     refine ⟨⟨(i : Int) - 1, (i : Int), by omega, by omega, rfl, rfl, Lib.hid (by rw [show ((i : Int) - 1 + 1).toNat = i by omega]; exact hF1.out), B13⟩, ?_⟩
     simp only [intOf]
     omega
    ·have e1 : decide ((0 : Int) < (Dp : Int)) = false := by simp; omega
     have e1' : decide (0 < Dp) = false := by simpa using hd
     have hF1 : Fz = lyL N (wLies ds tip y) i := by rw [hFz2.out]; exact (ly_no hx.out (by rw [hly.out, e1']; rfl)).symm
     replace hF1 := Lib.hid hF1
     go_wp2_with (first
      | ((with_reducible refine wpList_loadMH 30 (s.id.map bv) ri ?_ ?_ _ Tryd.underlying30 ?_ ?_ ?_); rfl; rfl; rfl; (rw [xk1.out]; kernel_rfl))
      | ((with_reducible refine wpList_loadG 30 i13 ?_ ?_ _ 32 y32.out Tryd.underlying30 ?_ ?_ ?_); rfl; rfl; rfl; kernel_rfl)
      | ((with_reducible refine wpList_binG (op := .eql) (ty := 30) ?_ ?_ ?_ (EI.out _ _ w13) ?_); rfl; rfl; rfl))
     refine ⟨⟨(i : Int) - 1, Fz, by omega, by omega, rfl, rfl, Lib.hid (by rw [show ((i : Int) - 1 + 1).toNat = i by omega]; exact hF1.out), B13⟩, ?_⟩
     simp only [intOf]
     omega
  ·obtain rfl : I = -1 := by omega
   have hF0 : Fz = lyL N (wLies ds tip y) 0 := by rw [hFz.out]; rfl
   have BE := B8.trans (br.mono B8.size)
   have cf9 := cf8.below br
   have cdep := cf9.cell 65 _ (cfc_at Cok).2
   rcases ly_depth hCD.out with ⟨rfl, h1, h2⟩ | ⟨rfl, r, s, h1, h2, h3⟩
   ·rw [h2] at hF0
    rw [h1] at cdep
    subst hF0
    clear hFz hCD
    go_wp2
    go_ret
    exact ⟨rfl, BE⟩
   ·rw [h2] at hF0
    subst hF0
    have hrn : r < nn := by rw [← hN.out]; exact (List.getElem?_eq_some_iff.1 h1).1
    have e1 : decide ((r : Int) < 0) = false := by simp
    have m0 : 0 ≤ (r : Int) := by omega
    have m1 : (r : Int) < (nn : Int) := by omega
    have hx2 : cs'[r]? = some C := by rw [hcs'.out, List.getElem?_map, h1, h3]; rfl
    have hcok : ∀ e ∈ cs', (cfc e).length = 66 := fun e he => by
     rw [hcs'.out, List.mem_map] at he
     obtain ⟨t, ht, rfl⟩ := he
     exact cfc_length (confM_ok (rN.2 t ht))
    obtain ⟨bA, oA, rfl⟩ := C8.someA (fun e => by
     have h1 := flat_length cfc 66 cs' hcok
     have h2 : cs'.flatMap cfc = [] := e
     have h3 : cs'.length = nn := by rw [hcs'.out, List.length_map, hN.out]
     rw [h2, h3, List.length_nil] at h1
     omega)
    have CA : ∀ w', Below wr.heap.size wr w' → w'.rangeAt bA (oA + r * 66) (cfc C) := fun w' b => Rd.piece cfc 66 cs' hcok ((C8.below br).below b) r C hx2
    have HCf := fun w' => ConfL C Cok w'
    have EC := fun p q w => eqlCfr Cok Cok p q w
    simp only [beq_self_eq_true] at EC
    replace CA := Lib.hid CA
    replace HCf := Lib.hid HCf
    replace EC := Lib.hid EC
    clear hFz h1 h2 h3 hx2 hcok cdep
    go_upto_region 21 with fail
    refine wp_region_rel [] Ext (by kernel_rfl) (by kernel_rfl) (by kernel_rfl) Ext.refl Ext.trans (by intro p hp; cases hp) ?_
    refine ZM ?_
    refine ZM ?_
    refine ZM ?_
    refine ZK ?_
    refine ZM ?_
    refine ZP (c := .agg (cfc C).toArray) (fun w hw => exec_loadAv (cf9.below hw.drew) _ _ rfl rfl _ 66 C66.out Tryd.underlying84 rfl (by kernel_rfl)) ?_
    refine ZC (c := .agg (cfc C).toArray) 29 #[.agg (cfc C).toArray] (fun w hw => (HCf.out w).mono ?_) ?_
    ·rintro e w' ⟨rfl, b⟩
     exact ⟨rfl, b⟩
    refine ZM ?_
    refine ZM ?_
    refine ZP (c := .pointer (some ⟨bA, oA + r * 66, none⟩)) (fun w _ => by have := m0; have := m1; go_simp; first | done | rfl) ?_
    refine ZP (c := .agg (cfc C).toArray) (fun w hw => exec_load_mid _ _ rfl bA (oA + r * 66) rfl (cfc C) _ (CA.out _ hw.drew) Tryd.underlying84 rfl (by rw [C66.out]; kernel_rfl)) ?_
    refine ZC (c := .agg (cfc C).toArray) 29 #[.agg (cfc C).toArray] (fun w hw => (HCf.out w).mono ?_) ?_
    ·rintro e w' ⟨rfl, b⟩
     exact ⟨rfl, b⟩
    refine relBin Ext.refl rfl rfl rfl rfl _ _ _ _ _ rfl (by conv => lhs; whnf) (by conv => lhs; whnf) (c := .bool true) (fun w => EC.out _ _ w) (by simp only [Zs]; rfl) ?_
    refine ZK ?_
    refine ZM ?_
    refine relEnd fun w14 hw14 => fill_end ?_
    go_wp2
    go_ret
    exact ⟨rfl, BE.trans (hw14.drew.mono BE.size)⟩
theorem law_WatchAll (S : List (List UInt8 × Sl)) (As At An : Option Addr) (ns cs nt ct nn cn : Nat) (hS : S.length = ns) (hns : ns ≤ maxLen) (N : List Sn) (hN : N.length = nn)
  (l : List Hd) (B : Option Addr) (m d : Nat) (hm : l.length = m) (tip : Int) (htip : -9223372036854775808 ≤ tip ∧ tip ≤ 9223372036854775807) (y : List UInt8) (yl : y.length = 32)
  (w : World) (ht : Tabs w) (rS : RdBss w As S) (rN : RdSns w An N) (rl : RdHds w B l) :
  Calls Tryd.prog 7 #[.agg (wtc As At An ns cs nt ct nn cn).toArray, .slice B m d, .int .i64 tip, .agg (hcs y)] w fun e w' => e = .returned (.bool true) ∧ Below w.heap.size w w' := by
 by_cases hfar : wFew (S.map (·.1)) nt nn = true ∧ m ≤ 20
 ·exact wall_main S As At An ns cs nt ct nn cn hS hns N hN l B m d hm tip htip y yl w ht rS rN rl hfar.1 hfar.2
 ·exact wall_far S As At An ns cs nt ct nn cn hS hns N hN l B m d hm tip htip y yl w ht rS rN rl hfar
end Go.Proofs.YtobjgebojhjhnaaDoor
