/- The law ProofWhole: the walk. -/
import Derived.Test.YtdkknincamkhpaaDoorQ1
import Derived.Test.YtdkknincamkhpaaDoorPr11
import Derived.Test.YtdkknincamkhpaaDoorPr14
import Derived.Test.YtdkknincamkhpaaDoorPr7
import Derived.Test.YtdkknincamkhpaaDoorLvs
/- The path of a match in a part that was built is its branch: plain law. -/
namespace Go.Proofs.YtdkknincamkhpaaDoor
open Go.RowKit
/-- what the nodes above a leaf are paired with, up to a height -/
def qBr (ls : List (List (List UInt8))) (n pos h : Nat) : List (List UInt8) := (List.range h).map fun j => nH ls j (mPr (pos / 2 ^ j) (pWd n j))
theorem qBr_succ (ls : List (List (List UInt8))) (n pos h : Nat) : qBr ls n pos (h + 1) = qBr ls n pos h ++ [nH ls h (mPr (pos / 2 ^ h) (pWd n h))] := by
  unfold qBr
  rw [List.range_succ, List.map_append]
  rfl
theorem pos_lt_width {n pos : Nat} (h : Nat) (hp : pos < n) : pos / 2 ^ h < pWd n h := by
  rw [pWd_lt]
  exact Nat.lt_of_le_of_lt (Nat.div_mul_le_self pos (2 ^ h)) hp
theorem pPth_vis {n : Nat} {ms : List Bool} {ls : List (List (List UInt8))} {H : Nat} (hP : PLv n ls H) (fl : List UInt8) (hs : List (List UInt8)) (pos : Nat) (hpn : pos < n) (hm : ms.getD pos false = true) : ∀ (h i d k : Nat), h ≤ H → pos / 2 ^ h = i → (∀ j x, ((pVis n ms h i).map PV.d)[j]? = some x → pDig fl (d + j) = some x) → (∀ j y, (pHs ls (pVis n ms h i))[j]? = some y → hs[k + j]? = some y) →
    pOk n ms ls h i = true → pPth n fl hs pos h i d k = qBr ls n pos h
  | 0, _, _, _, _, _, _, _, _ => by rw [pPth]; rfl
  | h + 1, i, d, k, hh, hi, hd, hk, hok => by
    have hiw := pos_lt_width (n := n) (pos := pos) (h + 1) hpn
    rw [hi] at hiw
    have hhas : pHas n ms (h + 1) i = true := by
      have hp : 0 < 2 ^ (h + 1) := Nat.pow_pos (by omega)
      refine pHas_true (k := pos) ?_ ?_ hpn hm
      · rw [← hi]; exact Nat.div_mul_le_self pos _
      · rw [← hi, Nat.add_mul, Nat.one_mul]; exact Nat.lt_div_mul_add hp
    rw [pVis] at hd hk
    have e1 := hd 0 _ rfl
    rw [Nat.add_zero, hhas] at e1
    rw [hhas] at hd hk
    rw [if_pos rfl] at hd hk
    rw [pHs_not] at hk
    have hd1 : ∀ j x, (((pVis n ms h (2 * i) ++ if 2 * i + 1 < pWd n h then pVis n ms h (2 * i + 1) else [])).map PV.d)[j]? = some x → pDig fl (d + 1 + j) = some x := fun j x hx => by
      have := hd (j + 1) x (by simpa using hx)
      rwa [show d + (j + 1) = d + 1 + j by omega] at this
    rw [List.map_append] at hd1
    rw [pHs_append] at hk
    obtain ⟨d1, d2⟩ := getElem?_app (f := pDig fl) hd1
    obtain ⟨k1, k2⟩ := getElem?_app (f := fun j => hs[j]?) hk
    rw [List.length_map] at d2
    rw [pOk, hhas] at hok
    simp only [Bool.not_true, Bool.false_or, Bool.and_eq_true, Bool.or_eq_true, Bool.not_eq_true', decide_eq_false_iff_not, bne_iff_ne, ne_eq] at hok
    obtain ⟨o1, o2⟩ := hok
    rw [pWd_succ] at hiw
    have hi2 : 2 * i < pWd n h := by omega
    have hph := pos_lt_width (n := n) (pos := pos) h hpn
    rw [half_pow] at hi
    have r1 := pRd_vis hP fl hs h (2 * i) (d + 1) k (by omega) hi2 d1 k1
    rw [if_pos o1] at r1
    rw [pPth, e1, qBr_succ]
    dsimp only
    rw [r1]
    dsimp only
    by_cases hw : 2 * i + 1 < pWd n h
    · rw [if_pos hw] at d2 k2 ⊢
      have o3 := o2.resolve_left (fun h => h hw)
      have r2 := pRd_vis hP fl hs h (2 * i + 1) _ _ (by omega) hw d2 k2
      rw [if_pos o3.1] at r2
      rw [r2]
      dsimp only
      unfold pSide mPr
      by_cases hp0 : pos / 2 ^ h = 2 * i
      · rw [pPth_vis hP fl hs pos hpn hm h (2 * i) (d + 1) k (by omega) hp0 d1 k1 o1, pPth_out n fl hs pos h (2 * i + 1) _ _ (by omega), List.append_nil, if_pos hp0, hp0, if_pos (by omega), show min (2 * i + 1) (pWd n h - 1) = 2 * i + 1 by omega]
      · have hp1 : pos / 2 ^ h = 2 * i + 1 := by omega
        rw [pPth_out n fl hs pos h (2 * i) _ _ (by omega), List.nil_append, pPth_vis hP fl hs pos hpn hm h (2 * i + 1) _ _ (by omega) hp1 d2 k2 o3.1, if_neg hp0, if_pos hp1, hp1, if_neg (by omega), show min (2 * i + 1 - 1) (pWd n h - 1) = 2 * i by omega]
    · rw [if_neg hw]
      have hp0 : pos / 2 ^ h = 2 * i := by omega
      unfold pSide mPr
      rw [pPth_vis hP fl hs pos hpn hm h (2 * i) (d + 1) k (by omega) hp0 d1 k1 o1, if_pos hp0, hp0, if_pos (by omega), show min (2 * i + 1) (pWd n h - 1) = 2 * i by omega]
theorem mBr_drop (hs : List (List UInt8)) (n : Nat) (hn : hs.length = n) (h0 : 0 < n) (h1 : n ≤ 4096) (pos : Nat) : ∀ (m j : Nat), j + m = pHt n + 1 → mBr ((mLv hs).drop j) (pos / 2 ^ j) = ((List.range' j (m - 1)).map fun q => nH (mLv hs) q (mPr (pos / 2 ^ q) (pWd n q)))
  | 0, j, hj => by
    obtain ⟨e1, _, _, _⟩ := lvq_levels hs n hn h0 h1
    rw [List.drop_of_length_le (by omega), mBr]
    rfl
  | m + 1, j, hj => by
    obtain ⟨e1, _, e3, _⟩ := lvq_levels hs n hn h0 h1
    have hx : (mLv hs)[j]? = some ((mLv hs)[j]'(by omega)) := List.getElem?_eq_getElem (by omega)
    have hl := e3 j _ hx
    rw [List.drop_eq_getElem_cons (by omega), mBr, hl, show pos / 2 ^ j / 2 = pos / 2 ^ (j + 1) by rw [half_pow], mBr_drop hs n hn h0 h1 pos m (j + 1) (by omega), Nat.add_sub_cancel]
    obtain ⟨q1, q2, q3⟩ := pHt_spec n h1
    by_cases hjh : j < pHt n
    · obtain ⟨m, rfl⟩ : ∃ m', m = m' + 1 := ⟨m - 1, by omega⟩
      rw [if_pos (q2 j hjh), List.range'_succ, List.map_cons, Nat.add_sub_cancel]
      congr 1
      unfold nH
      rw [List.getD_eq_getElem?_getD (l := mLv hs), hx]
      rfl
    · have : j = pHt n := by omega
      subst this
      obtain rfl : m = 0 := by omega
      rw [if_neg (by omega), List.drop_of_length_le (by omega), mBr]
      rfl
theorem mBr_qBr (hs : List (List UInt8)) (n : Nat) (hn : hs.length = n) (h0 : 0 < n) (h1 : n ≤ 4096) (pos : Nat) : mBr (mLv hs) pos = qBr (mLv hs) n pos (pHt n) := by
  have := mBr_drop hs n hn h0 h1 pos (pHt n + 1) 0 (by omega)
  rw [List.drop_zero, Nat.pow_zero, Nat.div_one, Nat.add_sub_cancel, ← List.range_eq_range'] at this
  exact this
/-- the path of a match of what was built is its branch -/
theorem pPth_built (hs : List (List UInt8)) (ms : List Bool) (n : Nat) (hn : hs.length = n) (h0 : 0 < n) (h1 : n ≤ 4096) (ha : mAlike (mLv hs) = false) (pos : Nat) (hpn : pos < n) (hm : ms.getD pos false = true) :
    pPth n (pBfl n ms) (pBhs hs ms) pos (pHt n) 0 0 0 = mBr (mLv hs) pos := by
  have hbh : pBhs hs ms = pHs (mLv hs) (pAll n ms) := by rw [pBhs, hn]
  have hroot : pos / 2 ^ pHt n = 0 := by
    exact Nat.lt_one_iff.1 (Nat.lt_of_lt_of_le (pos_lt_width (pHt n) hpn) (pHt_spec n h1).2.2)
  rw [mBr_qBr hs n hn h0 h1]
  refine pPth_vis (plv_of hs n hn h0 h1) _ _ pos hpn hm (pHt n) 0 0 0 (Nat.le_refl _) hroot (fun j x hx => ?_) (fun j y hy => ?_) (pOk_unlike hs ms n hn h0 h1 ha)
  · rw [Nat.zero_add]
    have hj := (List.getElem?_eq_some_iff.1 hx).1
    have := pFlags_digits ((pAll n ms).map PV.d) j (by rw [pFlags_length]; unfold pAll; omega)
    rw [← show pBfl n ms = pFlags ((pAll n ms).map PV.d) from rfl] at this
    rw [this, List.getD_eq_getElem?_getD, show ((pAll n ms).map PV.d)[j]? = some x from hx]
    rfl
  · rw [Nat.zero_add, hbh]
    exact hy
end Go.Proofs.YtdkknincamkhpaaDoor
/- merkle.Branch. -/
namespace Go.Proofs.YtdkknincamkhpaaDoor
open Go.RowKit Go.Shelf
attribute [local go_sem] Oper.semAt_some

/-- where the place has come behind levels -/
def mBrI : List (List (List UInt8)) → Nat → Nat
  | [], i => i
  | x :: r, i => if 1 < x.length then mBrI r (i / 2) else mBrI r i
theorem mBr_append : ∀ (ls ms : List (List (List UInt8))) (i : Nat), mBr (ls ++ ms) i = mBr ls i ++ mBr ms (mBrI ls i)
  | [], ms, i => by rw [List.nil_append, mBr, mBrI]; rfl
  | x :: r, ms, i => by
    rw [List.cons_append, mBr, mBr, mBrI]
    split
    · rw [mBr_append r ms (i / 2)]; rfl
    · rw [mBr_append r ms i]
theorem mBrI_append : ∀ (ls ms : List (List (List UInt8))) (i : Nat), mBrI (ls ++ ms) i = mBrI ms (mBrI ls i)
  | [], ms, i => by rw [List.nil_append, mBrI]
  | x :: r, ms, i => by
    rw [List.cons_append, mBrI, mBrI]
    split
    · rw [mBrI_append r ms (i / 2)]
    · rw [mBrI_append r ms i]
theorem mBrI_le : ∀ (ls : List (List (List UInt8))) (i : Nat), mBrI ls i ≤ i
  | [], i => Nat.le_refl _
  | x :: r, i => by
    rw [mBrI]
    split
    · exact Nat.le_trans (mBrI_le r (i / 2)) (Nat.div_le_self _ _)
    · exact mBrI_le r i
theorem mBr_len : ∀ (ls : List (List (List UInt8))) (i : Nat), (mBr ls i).length ≤ ls.length
  | [], _ => Nat.le_refl _
  | x :: r, i => by
    rw [mBr]
    split
    · rw [List.length_cons, List.length_cons]; have := mBr_len r (i / 2); omega
    · rw [List.length_cons]; have := mBr_len r i; omega
set_option maxRecDepth 10000 in
set_option maxHeartbeats 2000000 in
theorem Branch (l : List (List UInt8)) (h32 : All32 l) (A0 : Option Addr) (m c0 : Nat) (hm : l.length = m) (hm2 : m ≤ 4096) (i : Nat) (him : i < m) (w : World) (hr : Rd w A0 (hcl l)) (ht : Tabs w) :
    Calls Tryd.prog 29 #[.slice A0 m c0, .int .i64 (i : Int)] w fun e w' => ∃ v, e = .returned (.tuple #[v, .bool true]) ∧ w'.ownsRow w.heap.size 28 32 v (mBr (mLv l) i).length (hcl (mBr (mLv l) i)) ∧ Below w.heap.size w w' := by
  have g1 : decide ((i : Int) < 0) = false := by simp
  have g2 : decide ((m : Int) ≤ (i : Int)) = false := by simp; omega
  have g3 : decide ((4096 : Int) < (m : Int)) = false := by simp; omega
  replace hm := Lib.hid hm
  refine (callsIn_wide (n := 5)).1 ?_
  refine callsIn_of_wp_marks Tryd.func29 rfl trivial ?_ rfl
  simp only [Tryd.ntmps29, List.size_toArray, List.length_cons, List.length_nil, Nat.reduceAdd, Nat.reduceSub, Array.replicate_succ, Array.replicate_zero, List.push_toArray, List.append_toArray, List.nil_append, List.cons_append]
  refine wpIn_wide.2 ?_
  go_wp2_with (go_at_call 44; refine (levels A0 m c0 _).mono ?_; rintro e w1 ⟨rfl, rfl⟩)
  obtain ⟨W0, hW0⟩ : ∃ W0, W0 = ((w.alloc (.cells #[.int .i64 (i : Int)] 3)).alloc (.cells #[.slice none 0 0] 23)).alloc (.cells #[.slice A0 m c0] 23) := ⟨_, rfl⟩
  have e : ∀ (v : World) (o : Obj), (v.alloc o).heap.size = v.heap.size + 1 := fun v o => by simp
  have hsz : W0.heap.size = w.heap.size + 3 := by rw [hW0, e, e, e]
  have hB0 : Below w.heap.size w W0 := by rw [hW0]; exact (((Below.refl _ _).alloc (Nat.le_refl _) _).alloc (by simp) _).alloc (by simp; omega) _
  have hA0 : Av W0 w.heap.size 3 [.int .i64 (i : Int)] := by rw [hW0]; exact Av.alloc (heap_alloc2_old _ _ _) _
  have hA1 : Av W0 (w.heap.size + 1) 23 [.slice none 0 0] := by rw [hW0]; exact Av.alloc (heap_alloc2_new _ _ _) _
  have hcb : W0.cell? ⟨w.heap.size + 1 + 1, 0, none⟩ = some (.slice A0 m c0) := by
    have := heap_alloc_new ((w.alloc (.cells #[.int .i64 (i : Int)] 3)).alloc (.cells #[.slice none 0 0] 23)) (.cells #[.slice A0 m c0] 23)
    rw [← hW0, e, e] at this
    exact Av.cell (l := [.slice A0 m c0]) this 0 _ rfl
  rw [← hW0]
  clear hW0
  have hl13 := mLv_len l
  refine wpIn_wide.1 (wpIn_rangeFunc_lv (n := 5) (by omega) (gf := 62) (lb := #[.pointer (some ⟨w.heap.size + 1 + 1, 0, none⟩)]) rfl (enters_of Tryd.func62 (by kernel_rfl) rfl)
    (levels1_in 4 (by omega) l h32 A0 m c0 hm.out (w.heap.size + 1 + 1) W0 hcb (hr.below hB0) (by omega)) rfl
    (fun j b W => ∃ v, Av W w.heap.size 3 [.int .i64 (mBrI ((mLv l).take j) i : Int)] ∧ Av W (w.heap.size + 1) 23 [v] ∧ W.ownsRow (w.heap.size + 3) 28 32 v (mBr ((mLv l).take j) i).length (hcl (mBr ((mLv l).take j) i)) ∧ (∀ k, v.ownBlock = some k → k < b) ∧ Below w.heap.size w W ∧ w.heap.size + 3 ≤ b)
    ?hI (fun j b W h => by obtain ⟨v, h⟩ := h; exact ht.below h.2.2.2.2.1) ?h0 (fun v => { tmps := #[.slice A0 m c0, .int .i64 (i : Int), undef, .pointer (some ⟨w.heap.size, 0, none⟩), .slice none 0 0, .bool false, .pointer (some ⟨w.heap.size + 1, 0, none⟩), v, .int .i64 (i : Int), .bool false, .bool false, .int .i64 (i : Int), .slice A0 m c0, .int .i64 (m : Int), .bool false, .bool false, .bool false, .slice A0 m c0, .int .i64 (m : Int), .bool false, .bool false, .slice A0 m c0, .func (.func 62) #[] #[.pointer (some ⟨w.heap.size + 1 + 1, 0, none⟩)], v, undef, undef, undef, undef, undef, undef, undef, undef, undef, undef, undef, undef, undef, undef, undef, undef], defers := [] }) ?assign ?body ?done)
  case hI =>
    rintro j b W W' row ⟨v, i1, i2, i3, i4, i5, i6⟩ hg hrow
    have hrow' : ∀ r, row = some r → ∃ o : Obj, W.heap[r]? = some o ∧ o.isCells = false := fun r e => (hrow r e).2
    refine ⟨v, i1.grown hg hrow', i2.grown hg hrow', i3.kept hg ?_, i4, i5.grown hg i5.size (fun k e => by have := (hrow k e).1; omega), i6⟩
    rcases i3.2 with ⟨rfl, _⟩ | ⟨g, cap, cur, rfl, _, hgb, _⟩
    · exact .inl rfl
    · refine .inr fun e' => ?_
      obtain ⟨o, ho, hc⟩ := hrow' g e'.symm
      rw [hgb] at ho; cases ho; cases hc
  case h0 =>
    intro b hb
    exact ⟨_, by rw [List.take_zero, mBrI]; exact hA0, hA1, by rw [List.take_zero, mBr]; exact World.ownsRow_nil _ _ _ _, fun k hk => (by cases hk), hB0, by omega⟩
  case assign =>
    intro l' v W K hK
    gi_wp2
    exact hK
  case body =>
    rintro l' j x b W A c hx ⟨v, i1, i2, i3, i4, i5, i6⟩ ⟨hrx, hfx⟩ hxc hbW
    obtain ⟨hx32, hx0, hx4⟩ := mLv_mem l h32 x (List.mem_of_getElem? hx)
    have hj : j < (mLv l).length := (List.getElem?_eq_some_iff.1 hx).1
    have htk : (mLv l).take (j + 1) = (mLv l).take j ++ [x] := by rw [List.take_add_one, hx]; rfl
    obtain ⟨n, hn⟩ : ∃ n, x.length = n := ⟨_, rfl⟩
    obtain ⟨bb, off, rfl⟩ := hrx.someA (hcl_ne hx32 hx0)
    have hbb : b ≤ bb := hfx _ rfl
    have hq13 := mBr_len ((mLv l).take j) i
    rw [List.length_take] at hq13
    have hIi := mBrI_le ((mLv l).take j) i
    have hs1 : mBr ((mLv l).take (j + 1)) i = mBr ((mLv l).take j) i ++ mBr [x] (mBrI ((mLv l).take j) i) := by rw [htk, mBr_append]
    have hs2 : mBrI ((mLv l).take (j + 1)) i = mBrI [x] (mBrI ((mLv l).take j) i) := by rw [htk, mBrI_append]
    generalize hB : mBr ((mLv l).take j) i = B at *
    generalize hI2 : mBrI ((mLv l).take j) i = I at *
    obtain ⟨q, hq⟩ : ∃ q, B.length = q := ⟨_, rfl⟩
    obtain ⟨Ao, co, rfl, hco, _⟩ := own_form i3
    rw [hn] at hx0 hx4 hxc ⊢
    rw [hq] at i3 hco hq13 i2 i4
    replace hn := Lib.hid hn
    replace hq := Lib.hid hq
    by_cases h1 : 1 < n
    · have t1 : decide ((1 : Int) < (n : Int)) = true := by simp; omega
      have hIm : I < 100000 := by omega
      have HP := Lib.hid (paired_of I n (by omega) (by omega) (by omega))
      obtain ⟨y, hy⟩ : ∃ y, y = x.getD (mPr I n) [] := ⟨_, rfl⟩
      have hpn : mPr I n < n := by rw [mPr]; omega
      have hy32 : y.length = 32 := by rw [hy]; exact hx32.get _ (by rw [hn.out]; exact hpn)
      rw [mBr, if_pos (by rw [hn.out]; exact h1), mBr, hn.out, ← hy] at hs1
      rw [mBrI, if_pos (by rw [hn.out]; exact h1), mBrI] at hs2
      have HP2 : ∀ w, Calls Tryd.prog 48 #[.int .i64 (I : Int), .int .i64 (n : Int)] w fun e w' => e = .returned (.int .i64 (mPr I n : Int)) ∧ w' = w := HP.out
      replace HP2 := Lib.hid HP2
      clear HP
      have hry := Lib.hid (fun w' (hE : Ext W.drew w') => hy ▸ (hrx.below hE.drew).hash hx32 (mPr I n) (by rw [hn.out]; exact hpn))
      replace hy := Lib.hid hy
      obtain ⟨P, hP⟩ : ∃ P, P = mPr I n := ⟨_, rfl⟩
      rw [← hP] at hpn HP2 hry
      replace hP := Lib.hid hP
      have p0 : 0 ≤ (P : Int) := by omega
      have p1 : (P : Int) < (n : Int) := by omega
      gi_wp2
      refine wpIn_region_relT 9 [(8, OneW (y.map bv))] Ext (by kernel_rfl) (by kernel_rfl) (by kernel_rfl) (by kernel_rfl) (by kernel_rfl) (by kernel_rfl) Ext.refl Ext.trans (by intro p hp v w w' hR; simp only [List.mem_singleton] at hp; subst hp; exact OneW.mono hR) ?_
      refine relPure Ext.refl rfl rfl rfl rfl (c := .slice Ao q co) (fun w hw => by have := (i2.below hw.drew).cell 0 _ rfl; go_simp; first | done | rfl) (by simp only [List.set_cons_succ, List.set_cons_zero]; rfl) ?_
      refine relMove Ext.refl rfl rfl rfl rfl _ (.inl rfl) (by conv => lhs; whnf) (by simp only [List.set_cons_succ, List.set_cons_zero]; rfl) ?_
      refine relPure Ext.refl rfl rfl rfl rfl (c := .int .i64 (I : Int)) (fun w hw => by have := (i1.below hw.drew).cell 0 _ rfl; go_simp; first | done | rfl) (by simp only [List.set_cons_succ, List.set_cons_zero]; rfl) ?_
      refine relMove Ext.refl rfl rfl rfl rfl _ (.inl rfl) (by conv => lhs; whnf) (by simp only [List.set_cons_succ, List.set_cons_zero]; rfl) ?_
      refine relPure Ext.refl rfl rfl rfl rfl (fun w _ => by go_simp; first | done | rfl) (by simp only [List.set_cons_succ, List.set_cons_zero]; rfl) ?_
      refine relCall1 rfl rfl rfl rfl (c := .int .i64 (P : Int)) 48 #[.int .i64 (I : Int), .int .i64 (n : Int)] (fun w => by go_simp) (fun w hw => (HP2.out w).mono ?_) (by simp only [List.set_cons_succ, List.set_cons_zero]; rfl) ?_
      · rintro e w' ⟨rfl, rfl⟩
        exact ⟨rfl, Ext.refl _⟩
      refine relPure Ext.refl rfl rfl rfl rfl (fun w _ => by go_simp; first | done | rfl) (by simp only [List.set_cons_succ, List.set_cons_zero]; rfl) ?_
      refine relPure Ext.refl rfl rfl rfl rfl (c := .agg (hcs y)) (fun w hw => exec_load_mid _ _ rfl bb (off + P * 32) rfl (y.map bv) _ (hry.out w hw) Tryd.underlying28 rfl (by rw [List.length_map, hy32]; kernel_rfl)) (by simp only [List.set_cons_succ, List.set_cons_zero]; rfl) ?_
      refine relWord _ rfl (fun w hw => fill_none rfl (relOp_yes rfl ?_)) ?_
      · rw [exec_buildH y hy32 _ rfl (by rw [eval_evL]; rfl)]
        exact ⟨(Below.refl _ _).alloc (Nat.le_refl _) _, _, rfl, Av.rd (t := 28) (heap_alloc_new _ _)⟩
      refine relEnd fun w2 hw2 => fill_take rfl rfl fun v hv => fill_end ?_
      simp only [List.set_cons_succ, List.set_cons_zero, List.drop_succ_cons, List.drop_zero]
      obtain ⟨D, rfl, hrb⟩ := hv
      rw [← hcl_one] at hrb
      have hE := hw2.drew
      have k2 : KeepsFrom W0.heap.size W w2 := keepsFrom_below hE
      have o2 := own_below i3 hE
      have j1 := i1.below hE
      have j2 := i2.below hE
      have r2 := hrx.below hE
      have b2 := i5.trans (hE.mono i5.size)
      have ol2 := (World.ownsRow.lt o2)
      have hle : (q + 1) * 32 ≤ 140737488355328 := by omega
      go_wp2_with (at_builtin; refine wpList_appH o2 (Below.refl (w.heap.size + 3) w2) (by have := j2.lt; have := b2.size; have := hE.size; omega) (All32.one hy32) 1 1 hrb rfl hle rfl (.tmp 27) (.tmp 35) rfl rfl rfl ?_; intro v3 w3 o3 bo3 z3 gr3 ob3; obtain ⟨A3, c3, rfl, hc3, _⟩ := own_form o3; have q1 := j1.same (gr3.block _ j1.lt (fun e => by have := ol2 _ e.symm; omega)); have q2 := j2.same (gr3.block _ j2.lt (fun e => by have := ol2 _ e.symm; omega)); have qc := q2.cell 0 _ rfl; have qf := frozen_of_row _ _ 0 _ _ q2)
      unfold nrm
      have hw0 : w3.heap.size ≤ w3.heap.size := Nat.le_refl _
      have s1 := q1.other ⟨w.heap.size + 1, 0, none⟩ (.slice A3 (q + 1) c3) (by simp only; omega)
      have s2 := q2.set 0 (.slice A3 (q + 1) c3)
      have own3lt := World.ownsRow.lt o3
      have o4 : (w3.setCell ⟨w.heap.size + 1, 0, none⟩ (.slice A3 (q + 1) c3)).ownsRow (w.heap.size + 3) 28 32 (.slice A3 (q + 1) c3) (q + 1) (hcl (B ++ [y])) := by
        refine o3.kept (grownBy_setCell' w3 (w.heap.size + 1) _) ?_
        cases A3 with
        | none => exact .inl rfl
        | some a3 => refine .inr fun e => ?_; have := (own3lt a3.block rfl).1; simp [Value.ownBlock] at e; omega
      have bb2 : bb < w2.heap.size := by
        rcases r2 with h | ⟨b', off', hA, hc⟩
        · exact absurd h (hcl_ne hx32 (by rw [hn.out]; omega))
        · cases hA
          have hl := hcl_length hx32
          have h0 := hc 0 _ (List.getElem?_eq_getElem (by rw [hl, hn.out]; omega))
          exact World.block_lt_of_cell? w2 _ h0
      have hbo : ∀ k, (Value.slice Ao q co).ownBlock = some k → k ≠ bb := fun k hk => by have := i4 k hk; omega
      have r3 : Rd w3 (some ⟨bb, off, none⟩) (hcl x) := by
        rcases r2 with h | ⟨b', off', hA, hc⟩
        · exact .inl h
        · cases hA
          exact .inr ⟨_, _, rfl, fun j' u hu => (World.cell?_of_block (gr3.block bb bb2 (fun e => hbo bb e.symm rfl))).trans (hc j' u hu)⟩
      have r4 := r3.setOther ⟨w.heap.size + 1, 0, none⟩ (.slice A3 (q + 1) c3) (by simp only; omega)
      have kf3 : KeepsFrom W0.heap.size W w3 := by
        refine k2.trans ⟨z3, fun k' o' hk' ho' hc' => ?_⟩
        have hlt := (Array.getElem?_eq_some_iff.1 ho').1
        refine (gr3.block k' hlt fun e => ?_).trans ho'
        rcases o2.2 with ⟨e2, _⟩ | ⟨g, cap, cur, e2, _, hgb, _⟩
        · rw [e2] at e; cases e
        · rw [e2] at e
          obtain rfl : k' = g := by simpa [Value.ownBlock] using e
          rw [hgb] at ho'; cases ho'; cases hc'
      have b3 : Below w.heap.size w w3 := b2.trans (bo3.mono (by omega))
      have b4 := b3.setCell (p := ⟨w.heap.size + 1, 0, none⟩) (by simp only; omega) (.slice A3 (q + 1) c3)
      have kf4 := kf3.trans ((KeepsOthers.setCell w3 ⟨w.heap.size + 1, 0, none⟩ (.slice A3 (q + 1) c3)).from W0.heap.size)
      have z4 : (w3.setCell ⟨w.heap.size + 1, 0, none⟩ (.slice A3 (q + 1) c3)).heap.size = w3.heap.size := by simp
      have hzz : W.heap.size ≤ w3.heap.size := kf3.size
      have hob : ∀ k, (Value.slice A3 (q + 1) c3).ownBlock = some k → k < w3.heap.size := fun k hk => (own3lt k hk).2
      clear q1 q2 qc qf o3 o2 j1 j2 r2 r3 b2 b3 kf3 k2
      generalize w3.setCell ⟨w.heap.size + 1, 0, none⟩ (.slice A3 (q + 1) c3) = w4 at *
      have c1 := s1.cell 0 _ rfl
      have f1 := frozen_of_row _ _ 0 _ _ s1
      have d1 : (I : Int) / 2 = ((I / 2 : Nat) : Int) := by omega
      obtain ⟨I2, hI3⟩ : ∃ I2, I / 2 = I2 := ⟨_, rfl⟩
      rw [hI3] at d1 hs2
      gi_wp2
      refine ⟨kf4.trans ((KeepsOthers.setCell _ _ _).from _), r4.setOther _ _ (by simp only; omega), .slice A3 (q + 1) c3, ?_, s2.other _ _ (by simp only; omega), ?_, ?_, b4.setCell (by simp only; omega) _, ?_⟩
      · rw [hs2]; exact s1.set 0 _
      · rw [hs1, List.length_append, hq.out]
        refine o4.kept (grownBy_setCell' w4 w.heap.size _) ?_
        cases A3 with
        | none => exact .inl rfl
        | some a3 => refine .inr fun e => ?_; have := (own3lt a3.block rfl).1; simp [Value.ownBlock] at e; omega
      · intro k hk; have := hob k hk; simp; omega
      · simp; omega
    · have t1 : decide ((1 : Int) < (n : Int)) = false := by simp; omega
      rw [mBr, if_neg (by rw [hn.out]; exact h1), mBr, List.append_nil] at hs1
      rw [mBrI, if_neg (by rw [hn.out]; exact h1), mBrI] at hs2
      gi_wp2
      refine ⟨KeepsFrom.refl _ _, hrx, _, by rw [hs2]; exact i1, i2, by rw [hs1, hq.out]; exact i3, fun k hk => Nat.lt_of_lt_of_le (i4 k hk) hbW, i5, by omega⟩
  case done =>
    rintro D W hD ⟨v, i1, i2, i3, _, i5, _⟩ hK
    rw [List.take_of_length_le (Nat.le_refl _)] at i3
    obtain ⟨Ao, co, rfl, hco, _⟩ := own_form i3
    have hc := i2.cell 0 _ rfl
    obtain ⟨q, hq⟩ : ∃ q, (mBr (mLv l) i).length = q := ⟨_, rfl⟩
    rw [hq] at i3 hc
    replace hq := Lib.hid hq
    go_wp2
    refine ⟨by simp, .inl ⟨_, _, rfl, run_takeDeferred hK, ?_⟩⟩
    refine ⟨_, results_tmp2 rfl _ _ _, _, rfl, ?_, i5.grown (grownBy_putObj' W D (.deferred none)) i5.size (fun k e => by cases e; omega)⟩
    rw [hq.out]
    have o1 := ownsRow_putObj i3 (.deferred none) hK rfl
    refine ⟨o1.1, o1.2.imp id ?_⟩
    rintro ⟨g, cap, cur, e1, e2, e3⟩
    exact ⟨g, cap, cur, e1, by omega, e3⟩
end Go.Proofs.YtdkknincamkhpaaDoor
/- florinref03.Same. -/
namespace Go.Proofs.YtdkknincamkhpaaDoor
open Go.RowKit
theorem neqH (x y : List UInt8) (hx : x.length = 32) (hy : y.length = 32) (w : World) : (binOp .neq 28 (.agg (hcs x)) (.agg (hcs y))).run Tryd.prog w = .ok (.bool (!(x == y))) w := by
  have h := run_equalIn_bytes w 9998 28 5 32 Tryd.underlying28 Tryd.underlying5 sizeOf_u8 x y hx hy
  rw [run_neq_struct]
  rw [show hcs x = (x.map bv).toArray from rfl, show hcs y = (y.map bv).toArray from rfl]
  exact (congrArg (fun r : Result Bool => r.andThen fun b w' => .ok (Value.bool (!b)) w') h)
theorem take_eq_step {α : Type} (a b : List α) (d : α) (k : Nat) (ha : k < a.length) (hb : k < b.length) (h : a.take k = b.take k) (hd : a.getD k d = b.getD k d) : a.take (k + 1) = b.take (k + 1) := by
  rw [List.take_add_one, List.take_add_one, h]
  simp only [List.getD_eq_getElem?_getD, List.getElem?_eq_getElem ha, List.getElem?_eq_getElem hb, Option.getD_some] at hd ⊢
  rw [hd]
set_option maxRecDepth 10000 in
set_option maxHeartbeats 1000000 in
theorem SameH (a b : List (List UInt8)) (ha : All32 a) (hb : All32 b) (A B : Option Addr) (n m ca cb : Nat) (hna : a.length = n) (hnb : b.length = m) (hn : n ≤ 100000) (hm : m ≤ 100000) (w : World) (ra : Rd w A (hcl a)) (rb : Rd w B (hcl b)) :
    Calls Tryd.prog 16 #[.slice A n ca, .slice B m cb] w fun e w' => e = .returned (.bool (a == b)) ∧ Below w.heap.size w w' := by
  by_cases hnm : n = m
  · subst hnm
    replace hna := Lib.hid hna
    replace hnb := Lib.hid hnb
    go_enter Tryd.func16, Tryd.ntmps16
    go_wp2
    go_loopw [5] (fun i wr => ∃ k : Nat, k ≤ n ∧ i = .int .i64 (k : Int) ∧ Hid (a.take k = b.take k) ∧ Below w.heap.size w wr) (fun i _ => n - (intOf i).toNat)
    case atStart => exact ⟨0, by omega, rfl, Lib.hid (by simp), Below.refl _ _⟩
    case round =>
      obtain ⟨k, hk, rfl, htk, hbw⟩ := hrel
      by_cases hlt : k < n
      · have t1 : decide ((k : Int) < (n : Int)) = true := by simp; omega
        obtain ⟨ba, oa, rfl⟩ := ra.someA (hcl_ne ha (by rw [hna.out]; omega))
        obtain ⟨bb, ob, rfl⟩ := rb.someA (hcl_ne hb (by rw [hnb.out]; omega))
        obtain ⟨x, hx⟩ : ∃ x, x = a.getD k [] := ⟨_, rfl⟩
        obtain ⟨y, hy⟩ : ∃ y, y = b.getD k [] := ⟨_, rfl⟩
        have hx32 : x.length = 32 := by rw [hx]; exact ha.get _ (by rw [hna.out]; omega)
        have hy32 : y.length = 32 := by rw [hy]; exact hb.get _ (by rw [hnb.out]; omega)
        have hrx := Lib.hid (fun w' (hE : Below w.heap.size w w') => hx ▸ (ra.below hE).hash ha k (by rw [hna.out]; omega))
        have hry := Lib.hid (fun w' (hE : Below w.heap.size w w') => hy ▸ (rb.below hE).hash hb k (by rw [hnb.out]; omega))
        have heq := neqH x y hx32 hy32
        obtain ⟨q, hq⟩ : ∃ q, q = (x == y) := ⟨_, rfl⟩
        rw [← hq] at heq
        have n0 : 0 ≤ (k : Int) := by omega
        have n1 : (k : Int) < (n : Int) := by omega
        replace hx := Lib.hid hx
        replace hy := Lib.hid hy
        replace hq := Lib.hid hq
        go_wp2_with fail
        have H1 : ∀ w', Ext wr.drew w' → Below w.heap.size w w' := fun w' hE => hbw.trans (hE.drew.mono hbw.size)
        refine wp_region_rel [] Ext (by kernel_rfl) (by kernel_rfl) (by kernel_rfl) Ext.refl Ext.trans (by intro p hp; cases hp) ?_
        refine relMove Ext.refl rfl rfl rfl rfl _ (.inl rfl) (by conv => lhs; whnf) (by simp only [List.set_cons_succ, List.set_cons_zero]; rfl) ?_
        refine relMove Ext.refl rfl rfl rfl rfl _ (.inl rfl) (by conv => lhs; whnf) (by simp only [List.set_cons_succ, List.set_cons_zero]; rfl) ?_
        refine relPure Ext.refl rfl rfl rfl rfl (fun w _ => by go_simp; first | done | rfl) (by simp only [List.set_cons_succ, List.set_cons_zero]; rfl) ?_
        refine relPure Ext.refl rfl rfl rfl rfl (c := .agg (hcs x)) (fun w hw => exec_load_mid _ _ rfl ba (oa + k * 32) rfl (x.map bv) _ (hrx.out w (H1 w hw)) Tryd.underlying28 rfl (by rw [List.length_map, hx32]; kernel_rfl)) (by simp only [List.set_cons_succ, List.set_cons_zero]; rfl) ?_
        refine relMove Ext.refl rfl rfl rfl rfl _ (.inl rfl) (by conv => lhs; whnf) (by simp only [List.set_cons_succ, List.set_cons_zero]; rfl) ?_
        refine relMove Ext.refl rfl rfl rfl rfl _ (.inl rfl) (by conv => lhs; whnf) (by simp only [List.set_cons_succ, List.set_cons_zero]; rfl) ?_
        refine relPure Ext.refl rfl rfl rfl rfl (fun w _ => by go_simp; first | done | rfl) (by simp only [List.set_cons_succ, List.set_cons_zero]; rfl) ?_
        refine relPure Ext.refl rfl rfl rfl rfl (c := .agg (hcs y)) (fun w hw => exec_load_mid _ _ rfl bb (ob + k * 32) rfl (y.map bv) _ (hry.out w (H1 w hw)) Tryd.underlying28 rfl (by rw [List.length_map, hy32]; kernel_rfl)) (by simp only [List.set_cons_succ, List.set_cons_zero]; rfl) ?_
        refine relPure Ext.refl rfl rfl rfl rfl (fun w _ => by go_simp; first | done | rfl) (by simp only [List.set_cons_succ, List.set_cons_zero]; rfl) ?_
        refine relEnd fun w2 hw2 => fill_end ?_
        have hb2 := H1 w2 hw2
        cases q
        · go_wp2
          go_ret
          refine ⟨?_, hb2⟩
          have hne : x ≠ y := by have := hq.out; intro e; rw [e] at this; simp at this
          have : (a == b) = false := by
            rw [beq_eq_false_iff_ne]
            intro e
            exact hne (by rw [hx.out, hy.out, e])
          rw [this]
          rfl
        · go_wp2
          refine ⟨⟨k + 1, by omega, by go_num, Lib.hid ?_, hb2⟩, ?_⟩
          · exact take_eq_step a b [] k (by rw [hna.out]; omega) (by rw [hnb.out]; omega) htk.out (by rw [← hx.out, ← hy.out]; exact eq_of_beq hq.out.symm)
          · simp [intOf]; omega
      · obtain rfl : k = n := by omega
        have t1 : decide ((k : Int) < (k : Int)) = false := by simp
        go_wp2
        go_ret
        refine ⟨?_, hbw⟩
        have h := htk.out
        rw [List.take_of_length_le (by rw [hna.out]; omega), List.take_of_length_le (by rw [hnb.out]; omega)] at h
        rw [h, beq_self_eq_true]
        rfl
  · have t1 : ((n : Int) != (m : Int)) = true := by simp; omega
    have hf : (a == b) = false := by
      rw [beq_eq_false_iff_ne]
      intro e
      exact hnm (by rw [← hna, ← hnb, e])
    rw [hf]
    replace hna := Lib.hid hna
    replace hnb := Lib.hid hnb
    replace hf := Lib.hid hf
    go_enter Tryd.func16, Tryd.ntmps16
    go_wp2
    go_ret
    exact ⟨rfl, Below.refl _ _⟩
end Go.Proofs.YtdkknincamkhpaaDoor
namespace Go.Proofs.YtdkknincamkhpaaDoor
open Go.RowKit
attribute [local go_sem high] slB_lh slB_l slB_h
theorem Rd.bool_atq {v : World} {b off : Nat} {ms : List Bool} (h : Rd v (some ⟨b, off, none⟩) (ms.map Value.bool)) (k : Nat) (hk : k < ms.length) : v.cell? ⟨b, off + k, none⟩ = some (.bool (ms.getD k false)) := by
  rcases h with h | ⟨b', o', hA', hc⟩
  · have := congrArg List.length h
    rw [List.length_map, List.length_nil] at this
    omega
  · cases hA'
    exact hc k _ (by rw [List.getElem?_map, List.getD_eq_getElem?_getD, List.getElem?_eq_getElem hk]; rfl)
/-- what the whole tree has is told, and nothing else -/
theorem qFnd_whole (hs : List (List UInt8)) (ms : List Bool) (n : Nat) (hn : hs.length = n) (h0 : 0 < n) (h1 : n ≤ 4096) (ha : mAlike (mLv hs) = false) (pos : Int) :
    (∀ p : Nat, (p : Int) = pos → p < n → ms.getD p false = true → qFnd n (pBhs hs ms) (pBfl n ms) pos = some (mRootOf (mLv hs), hs.getD p []) ∧ qPath n (pBhs hs ms) (pBfl n ms) pos = mBr (mLv hs) p) ∧
    ((∀ p : Nat, (p : Int) = pos → p < n → ms.getD p false = false) → qFnd n (pBhs hs ms) (pBfl n ms) pos = none) := by
  have hx := pExt_built hs ms n hn h0 h1
  rw [if_pos (pOk_unlike hs ms n hn h0 h1 ha)] at hx
  have hmem : ∀ q, q ∈ mts n ms hs ↔ q.1 < n ∧ ms.getD q.1 false = true ∧ q.2 = hs.getD q.1 [] := by
    intro q
    unfold mts
    rw [List.mem_filterMap]
    constructor
    · rintro ⟨p, hp, hq⟩
      rw [List.mem_range] at hp
      split at hq
      · rename_i h
        obtain rfl := Option.some.inj hq
        exact ⟨hp, h, rfl⟩
      · cases hq
    · rintro ⟨h1, h2, h3⟩
      exact ⟨q.1, List.mem_range.2 h1, by rw [if_pos h2, ← h3]⟩
  refine ⟨fun p hp hpn hm => ⟨?_, ?_⟩, fun h => ?_⟩
  · unfold qFnd
    rw [hx, Option.bind_some, ← hp, qFind_of_mem _ p (hs.getD p []) (pExt_rise hx) ((hmem _).2 ⟨hpn, hm, rfl⟩)]
    rfl
  · unfold qPath
    rw [← hp, show ((p : Int)).toNat = p by omega]
    exact pPth_built hs ms n hn h0 h1 ha p hpn hm
  · unfold qFnd
    rw [hx, Option.bind_some, (qFind_none _ _).2 (fun q hq e => ?_)]
    · rfl
    · obtain ⟨h2, h3, _⟩ := (hmem q).1 hq
      have := h q.1 e h2
      rw [this] at h3
      cases h3
theorem mRootOf_32 (hs : List (List UInt8)) (h32 : All32 hs) : (mRootOf (mLv hs)).length = 32 := by
  unfold mRootOf
  cases h : (mLv hs).getLast? with
  | none => rfl
  | some x =>
    have hx := mLv_mem hs h32 x (List.mem_of_getLast? h)
    exact hx.1.get 0 hx.2.1
theorem pBhs_32 (hs : List (List UInt8)) (h32 : All32 hs) (ms : List Bool) (n : Nat) (hn : hs.length = n) (h0 : 0 < n) (h1 : n ≤ 4096) : All32 (pBhs hs ms) := by
  unfold pBhs
  rw [hn]
  refine pHs_32 (fun l hl => (mLv_mem hs h32 l hl).1) (fun v hv _ => ?_)
  obtain ⟨l, y, q1, q2, _⟩ := lvq_at hs n hn h0 (by omega) v.h v.i (pVis_mem n ms _ _ v hv) (pVis_ok h0 ms _ _ (pHt_pos n h0) v hv)
  exact ⟨l, y, q1, q2⟩
theorem pAll_len (ms : List Bool) (n : Nat) (h1 : n ≤ 4096) : (pAll n ms).length ≤ 8192 := by
  unfold pAll
  have := pVis_length n ms (pHt n) 0
  have h2 : 2 ^ (pHt n + 1) ≤ 2 ^ 13 := Nat.pow_le_pow_right (by omega) (by have := (pHt_spec n h1).1; omega)
  omega
set_option maxRecDepth 100000 in
set_option maxHeartbeats 8000000 in
theorem pwhl_0 (A Am : Option Addr) (n c nm cm : Nat) (pos : Int) (h : 40 < n ∨ 60 < nm ∨ n = 0) (w : World) (hT : Tabs w) : Calls Tryd.prog 8 #[.slice A n c, .slice Am nm cm, .int .i64 pos] w fun e w' => e = .returned (.bool true) ∧ Below w.heap.size w w' := by
  have HA := Lib.hid (awake12 w hT)
  have q : (decide ((40 : Int) < (n : Int)) = true ∧ decide (40 < n) = true) ∨ (decide ((40 : Int) < (n : Int)) = false ∧ decide (40 < n) = false ∧ decide ((60 : Int) < (nm : Int)) = true ∧ decide (60 < nm) = true) ∨ (decide ((40 : Int) < (n : Int)) = false ∧ decide (40 < n) = false ∧ decide ((60 : Int) < (nm : Int)) = false ∧ decide (60 < nm) = false ∧ ((n : Int) == 0) = true) := by
    by_cases h1 : 40 < n
    · exact .inl ⟨by simp; omega, by simp; omega⟩
    · by_cases h2 : 60 < nm
      · exact .inr (.inl ⟨by simp; omega, by simp; omega, by simp; omega, by simp; omega⟩)
      · exact .inr (.inr ⟨by simp; omega, by simp; omega, by simp; omega, by simp; omega, by simp; omega⟩)
  clear h
  rcases q with ⟨q1, q2⟩ | ⟨q1, q2, q3, q4⟩ | ⟨q1, q2, q3, q4, q5⟩ <;>
  · go_enter Tryd.func8, Tryd.ntmps8
    go_upto_region 2 with (go_at_call 9; refine (HA.out).mono ?_; rintro e w1 ⟨rfl, b1⟩)
    clear HA
    go_wp2
    go_ret
    exact ⟨rfl, b1⟩
set_option maxRecDepth 100000 in
set_option maxHeartbeats 8000000 in
theorem pwhl_1 (hs : List (List UInt8)) (h32 : All32 hs) (ms : List Bool) (A Am : Option Addr) (n c nm cm : Nat) (hn : hs.length = n) (hm : ms.length = nm) (pos : Int) (h0 : 0 < n) (h40 : n ≤ 40) (h60 : nm ≤ 60) (w : World) (hr : Rd w A (hcl hs)) (_ : Rd w Am (ms.map Value.bool)) (hT : Tabs w) (ha : mAlike (mLv hs) = true) : Calls Tryd.prog 8 #[.slice A n c, .slice Am nm cm, .int .i64 pos] w fun e w' => e = .returned (.bool true) ∧ Below w.heap.size w w' := by
  have HA := Lib.hid (awake12 w hT)
  have q1 : decide ((40 : Int) < (n : Int)) = false := by simp; omega
  have q2 : decide (40 < n) = false := by simp; omega
  have q3 : decide ((60 : Int) < (nm : Int)) = false := by simp; omega
  have q4 : decide (60 < nm) = false := by simp; omega
  have q5 : ((n : Int) == 0) = false := by simp; omega
  have HR := fun w' r t => RootAny hs h32 A n c hn w' r t
  obtain ⟨R, hR⟩ : ∃ R, R = mRootOf (mLv hs) := ⟨_, rfl⟩
  have R32 : R.length = 32 := by rw [hR]; exact mRootOf_32 hs h32
  rw [← hR] at HR
  have Rv32 : (R.map bv).length = 32 := by rw [List.length_map, R32]
  have Rone : (R.map bv).all (·.oneCell') = true := List.all_eq_true.2 (bv_one R)
  rw [ha] at HR
  replace HR := Lib.hid HR
  replace hR := Lib.hid hR
  replace ha := Lib.hid ha
  replace hn := Lib.hid hn
  replace hm := Lib.hid hm
  replace R32 := Lib.hid R32
  replace Rv32 := Lib.hid Rv32
  replace Rone := Lib.hid Rone
  go_enter Tryd.func8, Tryd.ntmps8
  go_upto_region 2 with (go_at_call 9; refine (HA.out).mono ?_; rintro e w1 ⟨rfl, b1⟩)
  clear HA
  go_wp2_with (first
    | (go_at_call 27; refine (HR.out w1 (hr.below b1) (hT.below b1)).mono ?_; rintro e w2 ⟨rfl, b2⟩)
    | ((with_reducible refine wpList_storeF 28 ((Below.refl w2.heap.size w2).alloc (Nat.le_refl _) _) (heap_alloc_new _ _) (Nat.le_refl _) (R.map bv) ?_ ?_ 32 Rv32.out ?_ ?_ ?_ ?_); rfl; rfl; kernel_rfl; rfl; exact Rone.out; intro w3 a3 b3 k3 z3; clear k3; replace z3 := Lib.hid z3))
  go_ret
  exact ⟨rfl, b1.trans ((b2.trans (b3.mono b2.size)).mono b1.size)⟩
set_option maxRecDepth 100000 in
set_option maxHeartbeats 16000000 in
theorem pwhl_2 (hs : List (List UInt8)) (h32 : All32 hs) (ms : List Bool) (A Am : Option Addr) (n c nm cm : Nat) (hn : hs.length = n) (hm : ms.length = nm) (pos : Int) (h0 : 0 < n) (h40 : n ≤ 40) (h60 : nm ≤ 60) (w : World) (hr : Rd w A (hcl hs)) (hrm : Rd w Am (ms.map Value.bool)) (hT : Tabs w) (ha : mAlike (mLv hs) = false) (hno : ∀ p : Nat, (p : Int) = pos → p < n → ms.getD p false = false) : Calls Tryd.prog 8 #[.slice A n c, .slice Am nm cm, .int .i64 pos] w fun e w' => e = .returned (.bool true) ∧ Below w.heap.size w w' := by
  have HA := Lib.hid (awake12 w hT)
  have q1 : decide ((40 : Int) < (n : Int)) = false := by simp; omega
  have q2 : decide (40 < n) = false := by simp; omega
  have q3 : decide ((60 : Int) < (nm : Int)) = false := by simp; omega
  have q4 : decide (60 < nm) = false := by simp; omega
  have q5 : ((n : Int) == 0) = false := by simp; omega
  have hb1 := pBhs_length hs ms n hn h0 (by omega)
  have hb2 := pBfl_length n ms
  have hb3 := pAll_len ms n (by omega)
  have HB := fun w' r r2 t => PBuild hs h32 ms A Am n c nm cm hn hm (by omega) (by omega) w' r r2 t
  have p32 := pBhs_32 hs h32 ms n hn h0 (by omega)
  have HQ := fun nh nf (e1 : (pBhs hs ms).length = nh) (e2 : (pBfl n ms).length = nf) Ah ch Af cf w' r r2 t => PPath (pBfl n ms) (pBhs hs ms) p32 n Ah nh ch Af nf cf e1 e2 (by omega) (by omega) (by omega) pos w' r r2 t
  have HK := fun nh nf (e1 : (pBhs hs ms).length = nh) (e2 : (pBfl n ms).length = nf) root y r32 y32 Ah ch Af cf w' r r2 t => PCheck (pBfl n ms) (pBhs hs ms) p32 n Ah nh ch Af nf cf e1 e2 (by omega) (by omega) (by omega) root y r32 y32 pos w' r r2 t
  obtain ⟨fw1, fw2⟩ := qFnd_whole hs ms n hn h0 (by omega) ha pos
  have HR := fun w' r t => RootAny hs h32 A n c hn w' r t
  obtain ⟨R, hR⟩ : ∃ R, R = mRootOf (mLv hs) := ⟨_, rfl⟩
  have R32 : R.length = 32 := by rw [hR]; exact mRootOf_32 hs h32
  rw [← hR] at HR
  have Rv32 : (R.map bv).length = 32 := by rw [List.length_map, R32]
  have Rone : (R.map bv).all (·.oneCell') = true := List.all_eq_true.2 (bv_one R)
  rw [ha] at HR
  unfold BdPost at HB
  rw [hn] at HB
  simp only [show ¬ (n = 0 ∨ 4096 < n) by omega, if_false] at HB
  obtain ⟨nh, hnh⟩ : ∃ x, x = (pBhs hs ms).length := ⟨_, rfl⟩
  obtain ⟨nf, hnf⟩ : ∃ x, x = (pBfl n ms).length := ⟨_, rfl⟩
  have HQ2 := HQ nh nf hnh.symm hnf.symm
  have HK2 := HK nh nf hnh.symm hnf.symm
  rw [← hnh, ← hnf] at HB
  rw [← hR] at fw1
  clear HQ HK hb1 hb2 hb3
  have fq := fw2 hno
  clear fw1 fw2
  rw [fq] at HQ2
  unfold PathPost at HQ2
  simp only [Option.map_none] at HQ2
  have q : decide (pos < 0) = true ∨ (decide (pos < 0) = false ∧ decide ((n : Int) ≤ pos) = true) ∨ (decide (pos < 0) = false ∧ decide ((n : Int) ≤ pos) = false ∧ decide ((nm : Int) ≤ pos) = true) ∨ (decide (pos < 0) = false ∧ decide ((n : Int) ≤ pos) = false ∧ decide ((nm : Int) ≤ pos) = false ∧ ∃ p : Nat, (p : Int) = pos ∧ p < nm ∧ ms.getD p false = false) := by
    by_cases h1 : pos < 0
    · exact .inl (by simp [h1])
    · by_cases h2 : (n : Int) ≤ pos
      · exact .inr (.inl ⟨by simp; omega, by simp [h2]⟩)
      · by_cases h3 : (nm : Int) ≤ pos
        · exact .inr (.inr (.inl ⟨by simp; omega, by simp; omega, by simp [h3]⟩))
        · exact .inr (.inr (.inr ⟨by simp; omega, by simp; omega, by simp; omega, pos.toNat, by omega, by omega, hno _ (by omega) (by omega)⟩))
  clear hno fq
  replace HB := Lib.hid HB
  replace HQ2 := Lib.hid HQ2
  replace HK2 := Lib.hid HK2
  replace HR := Lib.hid HR
  replace hR := Lib.hid hR
  replace ha := Lib.hid ha
  replace hn := Lib.hid hn
  replace hm := Lib.hid hm
  replace hnh := Lib.hid hnh
  replace hnf := Lib.hid hnf
  replace R32 := Lib.hid R32
  replace Rv32 := Lib.hid Rv32
  replace Rone := Lib.hid Rone
  replace p32 := Lib.hid p32
  go_enter Tryd.func8, Tryd.ntmps8
  go_upto_region 2 with (go_at_call 9; refine (HA.out).mono ?_; rintro e w1 ⟨rfl, b1⟩)
  clear HA
  go_upto_region 7 with (first
    | (go_at_call 27; refine (HR.out w1 (hr.below b1) (hT.below b1)).mono ?_; rintro e w2 ⟨rfl, b2⟩)
    | ((with_reducible refine wpList_storeF 28 ((Below.refl w2.heap.size w2).alloc (Nat.le_refl _) _) (heap_alloc_new _ _) (Nat.le_refl _) (R.map bv) ?_ ?_ 32 Rv32.out ?_ ?_ ?_ ?_); rfl; rfl; kernel_rfl; rfl; exact Rone.out; intro w3 a3 b3 k3 z3; clear k3; replace z3 := Lib.hid z3))
  obtain ⟨G, hG⟩ : ∃ G, G = w2.heap.size := ⟨_, rfl⟩
  rw [← hG] at a3 ⊢
  replace hG := Lib.hid hG
  have bw3 := b1.trans ((b2.trans (b3.mono b2.size)).mono b1.size)
  clear b1 b2 b3 HR
  go_upto_region 8 with (first
    | (go_at_call 28; refine (HB.out w3 (hr.below bw3) (hrm.below bw3) (hT.below bw3)).mono ?_; rintro e w4 ⟨b4, Ah, ch, Af, cf, rfl, hch, hcf, rh4, rf4, gh, gf⟩)
    | ((with_reducible refine wpList_storeF 33 ((Below.refl w4.heap.size w4).alloc (Nat.le_refl _) _) (heap_alloc_new _ _) (Nat.le_refl _) (trc n Ah nh ch Af nf cf) ?_ ?_ 3 rfl ?_ ?_ ?_ ?_); rfl; rfl; kernel_rfl; rfl; rfl; intro w5 aT b5 k5 z5; clear k5; replace z5 := Lib.hid z5))
  obtain ⟨T, hT0⟩ : ∃ T, T = w4.heap.size := ⟨_, rfl⟩
  rw [← hT0] at aT ⊢
  replace hT0 := Lib.hid hT0
  have b35 := b4.trans (b5.mono b4.size)
  have bw5 := bw3.trans (b35.mono bw3.size)
  have rh5 := rh4.below b5
  have rf5 := rf4.below b5
  have a5 := a3.below b35
  clear b4 b5 b35 rh4 rf4 a3 bw3 gh gf HB
  go_upto_region 9 with (first
    | ((with_reducible refine wpList_loadF 33 aT ?_ _ 3 ?_ Tryd.underlying33 ?_ ?_ ?_); rfl; rfl; rfl; kernel_rfl)
    | (go_at_call 11; refine (HQ2.out Ah ch Af cf w5 rh5 rf5 (hT.below bw5)).mono ?_; rintro e w6 ⟨b6, rfl⟩))
  have bw6 := bw5.trans (b6.mono bw5.size)
  have rm6 := hrm.below bw6
  clear b6 bw5 rh5 rf5 a5 aT HQ2
  rcases q with p1 | ⟨p1, p2⟩ | ⟨p1, p2, p3⟩ | ⟨p1, p2, p3, p, rfl, p4, p5⟩
  · go_wp2
    go_ret
    exact ⟨rfl, bw6⟩
  · go_wp2
    go_ret
    exact ⟨rfl, bw6⟩
  · go_wp2
    go_ret
    exact ⟨rfl, bw6⟩
  · obtain ⟨bm, om, rfl⟩ := rm6.someA (by intro e; have := congrArg List.length e; rw [List.length_map, hm.out] at this; simp at this; omega)
    have cb := rm6.bool_atq p (by rw [hm.out]; exact p4)
    rw [p5] at cb
    have m0 : (0 : Int) ≤ (p : Int) := by omega
    have m1 : (p : Int) < (nm : Int) := by omega
    have hpn : (p : Int) < (n : Int) := by simpa using p2
    have p2' : decide (n ≤ p) = false := by simp; omega
    have p3' : decide (nm ≤ p) = false := by simp; omega
    have g1 : decide ((p : Int) < 0) = false := by simp
    clear p5
    go_wp2
    go_ret
    exact ⟨rfl, bw6⟩
set_option maxRecDepth 100000 in
set_option maxHeartbeats 16000000 in
theorem pwhl_3 (hs : List (List UInt8)) (h32 : All32 hs) (ms : List Bool) (A Am : Option Addr) (n c nm cm : Nat) (hn : hs.length = n) (hm : ms.length = nm) (pos : Int) (h0 : 0 < n) (h40 : n ≤ 40) (h60 : nm ≤ 60) (w : World) (hr : Rd w A (hcl hs)) (hrm : Rd w Am (ms.map Value.bool)) (hT : Tabs w) (ha : mAlike (mLv hs) = false) (p : Nat) (hp : (p : Int) = pos) (hpn : p < n) (hpm : p < nm) (hmp : ms.getD p false = true) : Calls Tryd.prog 8 #[.slice A n c, .slice Am nm cm, .int .i64 pos] w fun e w' => e = .returned (.bool true) ∧ Below w.heap.size w w' := by
  have HA := Lib.hid (awake12 w hT)
  have q1 : decide ((40 : Int) < (n : Int)) = false := by simp; omega
  have q2 : decide (40 < n) = false := by simp; omega
  have q3 : decide ((60 : Int) < (nm : Int)) = false := by simp; omega
  have q4 : decide (60 < nm) = false := by simp; omega
  have q5 : ((n : Int) == 0) = false := by simp; omega
  have hb1 := pBhs_length hs ms n hn h0 (by omega)
  have hb2 := pBfl_length n ms
  have hb3 := pAll_len ms n (by omega)
  have HB := fun w' r r2 t => PBuild hs h32 ms A Am n c nm cm hn hm (by omega) (by omega) w' r r2 t
  have p32 := pBhs_32 hs h32 ms n hn h0 (by omega)
  have HQ := fun nh nf (e1 : (pBhs hs ms).length = nh) (e2 : (pBfl n ms).length = nf) Ah ch Af cf w' r r2 t => PPath (pBfl n ms) (pBhs hs ms) p32 n Ah nh ch Af nf cf e1 e2 (by omega) (by omega) (by omega) pos w' r r2 t
  have HK := fun nh nf (e1 : (pBhs hs ms).length = nh) (e2 : (pBfl n ms).length = nf) root y r32 y32 Ah ch Af cf w' r r2 t => PCheck (pBfl n ms) (pBhs hs ms) p32 n Ah nh ch Af nf cf e1 e2 (by omega) (by omega) (by omega) root y r32 y32 pos w' r r2 t
  obtain ⟨fw1, fw2⟩ := qFnd_whole hs ms n hn h0 (by omega) ha pos
  have HR := fun w' r t => RootAny hs h32 A n c hn w' r t
  obtain ⟨R, hR⟩ : ∃ R, R = mRootOf (mLv hs) := ⟨_, rfl⟩
  have R32 : R.length = 32 := by rw [hR]; exact mRootOf_32 hs h32
  rw [← hR] at HR
  have Rv32 : (R.map bv).length = 32 := by rw [List.length_map, R32]
  have Rone : (R.map bv).all (·.oneCell') = true := List.all_eq_true.2 (bv_one R)
  rw [ha] at HR
  unfold BdPost at HB
  rw [hn] at HB
  simp only [show ¬ (n = 0 ∨ 4096 < n) by omega, if_false] at HB
  obtain ⟨nh, hnh⟩ : ∃ x, x = (pBhs hs ms).length := ⟨_, rfl⟩
  obtain ⟨nf, hnf⟩ : ∃ x, x = (pBfl n ms).length := ⟨_, rfl⟩
  have HQ2 := HQ nh nf hnh.symm hnf.symm
  have HK2 := HK nh nf hnh.symm hnf.symm
  rw [← hnh, ← hnf] at HB
  rw [← hR] at fw1
  clear HQ HK hb1 hb2 hb3
  obtain ⟨fq1, fq2⟩ := fw1 p hp hpn hmp
  clear fw1 fw2
  subst hp
  rw [fq1, fq2] at HQ2
  have bl32 := mBr_32 (mLv hs) p (fun x hx => (mLv_mem hs h32 x hx).1)
  have HBR := fun w' r t => Branch hs h32 A n c hn (by omega) p hpn w' r t
  obtain ⟨Br, hBr⟩ : ∃ x, x = mBr (mLv hs) p := ⟨_, rfl⟩
  rw [← hBr] at HQ2 bl32 HBR
  unfold PathPost at HQ2
  simp only [Option.map_some] at HQ2
  obtain ⟨m, hm'⟩ : ∃ m, m = Br.length := ⟨_, rfl⟩
  have hm12 : m ≤ 12 := by
    have := (qPath_climbs fq1).1
    rw [fq2, ← hBr, ← hm'] at this
    rw [this]
    exact (pHt_spec n (by omega)).1
  rw [← hm'] at HQ2 HBR
  have HSM := fun A B ca cb w' ra rb => SameH Br Br bl32 bl32 A B m m ca cb hm'.symm hm'.symm (by omega) (by omega) w' ra rb
  rw [show (Br == Br) = true by simp] at HSM
  obtain ⟨y, hy⟩ : ∃ y, y = hs.getD p [] := ⟨_, rfl⟩
  rw [← hy] at fq1
  have y32 : y.length = 32 := by rw [hy]; exact h32.get p (by rw [hn]; exact hpn)
  have yv32 : (y.map bv).length = 32 := by rw [List.length_map, y32]
  have HK3 := HK2 R y R32 y32
  have hkt : qCheck n (pBhs hs ms) (pBfl n ms) R (p : Int) y = true := by
    unfold qCheck
    rw [fq1]
    simp
  rw [hkt] at HK3
  obtain ⟨bl, ol, rfl⟩ := hr.someA (hcl_ne h32 (by rw [hn]; omega))
  have hrg : ∀ w', Rd w' (some ⟨bl, ol, none⟩) (hcl hs) → w'.rangeAt bl (ol + p * 32) (y.map bv) := fun w' h => by have := h.hash h32 p (by rw [hn]; exact hpn); rwa [← hy] at this
  obtain ⟨bm, om, rfl⟩ := hrm.someA (by intro e; have := congrArg List.length e; rw [List.length_map, hm] at this; simp at this; omega)
  have hcb : ∀ w', Rd w' (some ⟨bm, om, none⟩) (ms.map Value.bool) → w'.cell? ⟨bm, om + p, none⟩ = some (.bool true) := fun w' h => by rw [h.bool_atq p (by rw [hm]; exact hpm), hmp]
  have p1 : decide ((p : Int) < 0) = false := by simp
  have p2 : decide ((n : Int) ≤ (p : Int)) = false := by simp; omega
  have p3 : decide ((nm : Int) ≤ (p : Int)) = false := by simp; omega
  have p2' : decide (n ≤ p) = false := by simp; omega
  have p3' : decide (nm ≤ p) = false := by simp; omega
  have m0 : (0 : Int) ≤ (p : Int) := by omega
  have m1 : (p : Int) < (nm : Int) := by omega
  have m2 : (p : Int) < (n : Int) := by omega
  clear HK2 hkt fq1 fq2 hmp
  replace HBR := Lib.hid HBR
  replace HSM := Lib.hid HSM
  replace HK3 := Lib.hid HK3
  replace hrg := Lib.hid hrg
  replace hcb := Lib.hid hcb
  replace hy := Lib.hid hy
  replace y32 := Lib.hid y32
  replace yv32 := Lib.hid yv32
  replace hBr := Lib.hid hBr
  replace hm' := Lib.hid hm'
  replace bl32 := Lib.hid bl32
  replace HB := Lib.hid HB
  replace HQ2 := Lib.hid HQ2
  replace HR := Lib.hid HR
  replace hR := Lib.hid hR
  replace ha := Lib.hid ha
  replace hn := Lib.hid hn
  replace hm := Lib.hid hm
  replace hnh := Lib.hid hnh
  replace hnf := Lib.hid hnf
  replace R32 := Lib.hid R32
  replace Rv32 := Lib.hid Rv32
  replace Rone := Lib.hid Rone
  replace p32 := Lib.hid p32
  go_enter Tryd.func8, Tryd.ntmps8
  go_upto_region 2 with (go_at_call 9; refine (HA.out).mono ?_; rintro e w1 ⟨rfl, b1⟩)
  clear HA
  go_upto_region 7 with (first
    | (go_at_call 27; refine (HR.out w1 (hr.below b1) (hT.below b1)).mono ?_; rintro e w2 ⟨rfl, b2⟩)
    | ((with_reducible refine wpList_storeF 28 ((Below.refl w2.heap.size w2).alloc (Nat.le_refl _) _) (heap_alloc_new _ _) (Nat.le_refl _) (R.map bv) ?_ ?_ 32 Rv32.out ?_ ?_ ?_ ?_); rfl; rfl; kernel_rfl; rfl; exact Rone.out; intro w3 a3 b3 k3 z3; clear k3; replace z3 := Lib.hid z3))
  obtain ⟨G, hG⟩ : ∃ G, G = w2.heap.size := ⟨_, rfl⟩
  rw [← hG] at a3 ⊢
  replace hG := Lib.hid hG
  have bw3 := b1.trans ((b2.trans (b3.mono b2.size)).mono b1.size)
  clear b1 b2 b3 HR
  go_upto_region 8 with (first
    | (go_at_call 28; refine (HB.out w3 (hr.below bw3) (hrm.below bw3) (hT.below bw3)).mono ?_; rintro e w4 ⟨b4, Ah, ch, Af, cf, rfl, hch, hcf, rh4, rf4, gh, gf⟩)
    | ((with_reducible refine wpList_storeF 33 ((Below.refl w4.heap.size w4).alloc (Nat.le_refl _) _) (heap_alloc_new _ _) (Nat.le_refl _) (trc n Ah nh ch Af nf cf) ?_ ?_ 3 rfl ?_ ?_ ?_ ?_); rfl; rfl; kernel_rfl; rfl; rfl; intro w5 aT b5 k5 z5; clear k5; replace z5 := Lib.hid z5))
  obtain ⟨T, hT0⟩ : ∃ T, T = w4.heap.size := ⟨_, rfl⟩
  rw [← hT0] at aT ⊢
  replace hT0 := Lib.hid hT0
  have b35 := b4.trans (b5.mono b4.size)
  have bw5 := bw3.trans (b35.mono bw3.size)
  have rh5 := rh4.below b5
  have rf5 := rf4.below b5
  have a5 := a3.below b35
  clear b4 b5 b35 rh4 rf4 a3 bw3 gh gf HB
  go_upto_region 9 with (first
    | ((with_reducible refine wpList_loadF 33 aT ?_ _ 3 ?_ Tryd.underlying33 ?_ ?_ ?_); rfl; rfl; rfl; kernel_rfl)
    | (go_at_call 11; refine (HQ2.out Ah ch Af cf w5 rh5 rf5 (hT.below bw5)).mono ?_; rintro e w6 ⟨b6, A6, c6, rfl, hc6, hA6, rd6⟩))
  have bw6 := bw5.trans (b6.mono bw5.size)
  have cb := hcb.out w6 (hrm.below bw6)
  replace hA6 := Lib.hid hA6
  clear HQ2
  go_upto_region 11 with fail
  clear cb
  go_upto_region 12 with (go_at_call 29; refine (HBR.out w6 (hr.below bw6) (hT.below bw6)).mono ?_; rintro e w7 ⟨v, rfl, own7, b7⟩)
  obtain ⟨A7, c7, rfl, hc7, _⟩ := own_form own7
  have rb7 := own_rd own7
  have b57 := b6.trans (b7.mono b6.size)
  have bw7 := bw6.trans (b7.mono bw6.size)
  have rd7 := rd6.below b7
  have aT7 := aT.below b57
  have a7 := a5.below b57
  have rh7 := rh5.below b57
  have rf7 := rf5.below b57
  have rl7 := hr.below bw7
  clear own7 b6 b7 b57 rd6 aT a5 rh5 rf5 bw5 bw6 HBR
  refine wp_region_rel [] Ext (by kernel_rfl) (by kernel_rfl) (by kernel_rfl) Ext.refl Ext.trans (by intro p hp; cases hp) ?_
  refine relMove Ext.refl rfl rfl rfl rfl _ (.inl rfl) (by conv => lhs; whnf) (by simp only [List.set_cons_succ, List.set_cons_zero]; rfl) ?_
  refine relMove Ext.refl rfl rfl rfl rfl _ (.inl rfl) (by conv => lhs; whnf) (by simp only [List.set_cons_succ, List.set_cons_zero]; rfl) ?_
  refine relMove Ext.refl rfl rfl rfl rfl _ (.inl rfl) (by conv => lhs; whnf) (by simp only [List.set_cons_succ, List.set_cons_zero]; rfl) ?_
  refine relPick Ext.refl rfl rfl rfl rfl _ _ _ rfl rfl (by conv => lhs; whnf) (by simp only [List.set_cons_succ, List.set_cons_zero]; rfl) ?_
  refine relMove Ext.refl rfl rfl rfl rfl _ (.inl rfl) (by conv => lhs; whnf) (by simp only [List.set_cons_succ, List.set_cons_zero]; rfl) ?_
  refine relMove Ext.refl rfl rfl rfl rfl _ (.inl rfl) (by conv => lhs; whnf) (by simp only [List.set_cons_succ, List.set_cons_zero]; rfl) ?_
  refine relMove Ext.refl rfl rfl rfl rfl _ (.inl rfl) (by conv => lhs; whnf) (by simp only [List.set_cons_succ, List.set_cons_zero]; rfl) ?_
  refine relCall1 rfl rfl rfl rfl (c := .bool true) 16 #[.slice A6 m c6, .slice A7 m c7] (fun w => by go_simp) (fun w hw => (HSM.out A6 A7 c6 c7 w (rd7.below hw.drew) (rb7.below hw.drew)).mono ?_) (by simp only [List.set_cons_succ, List.set_cons_zero]; rfl) ?_
  · rintro e w' ⟨rfl, b⟩
    exact ⟨rfl, b⟩
  refine relPick Ext.refl rfl rfl rfl rfl _ _ _ rfl rfl (by conv => lhs; whnf) (by simp only [List.set_cons_succ, List.set_cons_zero]; rfl) ?_
  refine relMove Ext.refl rfl rfl rfl rfl _ (.inl rfl) (by conv => lhs; whnf) (by simp only [List.set_cons_succ, List.set_cons_zero]; rfl) ?_
  refine relPure Ext.refl rfl rfl rfl rfl (c := .agg ((trc n Ah nh ch Af nf cf)).toArray) (fun w hw => exec_loadAv (aT7.below hw.drew) _ _ rfl rfl _ 3 rfl Tryd.underlying33 rfl (by kernel_rfl)) (by simp only [List.set_cons_succ, List.set_cons_zero]; rfl) ?_
  refine relPure Ext.refl rfl rfl rfl rfl (c := .agg (hcs R)) (fun w hw => exec_loadAv (a7.below hw.drew) _ _ rfl rfl _ 32 Rv32.out Tryd.underlying28 rfl (by kernel_rfl)) (by simp only [List.set_cons_succ, List.set_cons_zero]; rfl) ?_
  refine relMove Ext.refl rfl rfl rfl rfl _ (.inl rfl) (by conv => lhs; whnf) (by simp only [List.set_cons_succ, List.set_cons_zero]; rfl) ?_
  refine relMove Ext.refl rfl rfl rfl rfl _ (.inl rfl) (by conv => lhs; whnf) (by simp only [List.set_cons_succ, List.set_cons_zero]; rfl) ?_
  refine relMove Ext.refl rfl rfl rfl rfl _ (.inl rfl) (by conv => lhs; whnf) (by simp only [List.set_cons_succ, List.set_cons_zero]; rfl) ?_
  refine relPure Ext.refl rfl rfl rfl rfl (c := .pointer (some ⟨bl, ol + p * 32, none⟩)) (fun w _ => by go_simp; first | done | rfl) (by simp only [List.set_cons_succ, List.set_cons_zero]; rfl) ?_
  refine relPure Ext.refl rfl rfl rfl rfl (c := .agg (hcs y)) (fun w hw => exec_load_mid _ _ rfl bl (ol + p * 32) rfl (y.map bv) _ (hrg.out _ (rl7.below hw.drew)) Tryd.underlying28 rfl (by rw [yv32.out]; kernel_rfl)) (by simp only [List.set_cons_succ, List.set_cons_zero]; rfl) ?_
  refine relCall1 rfl rfl rfl rfl (c := .bool true) 17 #[.agg (trc n Ah nh ch Af nf cf).toArray, .agg (hcs R), .int .i64 (p : Int), .agg (hcs y)] (fun w => by go_simp) (fun w hw => (HK3.out Ah ch Af cf w (rh7.below hw.drew) (rf7.below hw.drew) (hT.below (bw7.trans (hw.drew.mono bw7.size)))).mono ?_) (by simp only [List.set_cons_succ, List.set_cons_zero]; rfl) ?_
  · rintro e w' ⟨rfl, b⟩
    exact ⟨rfl, b⟩
  refine relPick Ext.refl rfl rfl rfl rfl _ _ _ rfl rfl (by conv => lhs; whnf) (by simp only [List.set_cons_succ, List.set_cons_zero]; rfl) ?_
  refine relMove Ext.refl rfl rfl rfl rfl _ (.inr rfl) (by conv => lhs; whnf) (by simp only [List.set_cons_succ, List.set_cons_zero]; rfl) ?_
  refine relEnd fun w8 hw8 => fill_end ?_
  have bw8 := bw7.trans (hw8.drew.mono bw7.size)
  go_wp2
  go_ret
  exact ⟨rfl, bw8⟩
theorem law_ProofWhole (hs : List (List UInt8)) (h32 : All32 hs) (ms : List Bool) (A Am : Option Addr) (n c nm cm : Nat) (hn : hs.length = n) (hm : ms.length = nm) (pos : Int) (w : World) (hr : Rd w A (hcl hs)) (hrm : Rd w Am (ms.map Value.bool)) (hT : Tabs w) : Calls Tryd.prog 8 #[.slice A n c, .slice Am nm cm, .int .i64 pos] w fun e w' => e = .returned (.bool true) ∧ Below w.heap.size w w' := by
  by_cases h : 40 < n ∨ 60 < nm ∨ n = 0
  · exact pwhl_0 A Am n c nm cm pos h w hT
  · cases ha : mAlike (mLv hs) with
    | true => exact pwhl_1 hs h32 ms A Am n c nm cm hn hm pos (by omega) (by omega) (by omega) w hr hrm hT ha
    | false =>
      by_cases hp : ∃ p : Nat, (p : Int) = pos ∧ p < n ∧ ms.getD p false = true
      · obtain ⟨p, h1, h2, h3⟩ := hp
        have h4 : p < nm := by
          rcases Nat.lt_or_ge p nm with h | h
          · exact h
          · rw [List.getD_eq_getElem?_getD, List.getElem?_eq_none (by omega)] at h3
            cases h3
        exact pwhl_3 hs h32 ms A Am n c nm cm hn hm pos (by omega) (by omega) (by omega) w hr hrm hT ha p h1 h2 h4 h3
      · exact pwhl_2 hs h32 ms A Am n c nm cm hn hm pos (by omega) (by omega) (by omega) w hr hrm hT ha (fun p h1 h2 => by
          cases h3 : ms.getD p false with
          | false => rfl
          | true => exact absurd ⟨p, h1, h2, h3⟩ hp)
end Go.Proofs.YtdkknincamkhpaaDoor
