/- Sam; Py: put together for the claim. -/
import Derived.Test.YtmdllemgjhkphaaDoorLvs
import Derived.Test.YtmdllemgjhkphaaDoorPr18
/- florinref03.Same. -/
namespace Go.Proofs.YtmdllemgjhkphaaDoor
open Go.RowKit
theorem neqH (x y : List UInt8) (hx : x.length = 32) (hy : y.length = 32) (w : World) : (binOp .neq 28 (.agg (hcs x)) (.agg (hcs y))).run Tryd.prog w = .ok (.bool (!(x == y))) w := by
  have h := run_equalIn_bytes w 9998 28 5 32 Tryd.underlying28 Tryd.underlying5 sizeOf_u8 x y hx hy
  rw [run_neq_struct]
  rw [show hcs x = (x.map bv).toArray from rfl, show hcs y = (y.map bv).toArray from rfl]
  exact (congrArg (fun r : Result Bool => r.andThen fun b w' => .ok (Value.bool (!b)) w') h)
theorem take_eq_step {α : Type} (a b : List α) (d : α) (k : Nat) (ha : k < a.length) (hb : k < b.length) (h : a.take k = b.take k) (hd : a.getD k d = b.getD k d) : a.take (k + 1) = b.take (k + 1) := by
  rw [List.take_add_one, List.take_add_one, h]
  simp only [List.getD_eq_getElem?_getD, List.getElem?_eq_getElem ha, List.getElem?_eq_getElem hb, Option.getD_some] at hd ⊢
  rw [hd]
set_option maxRecDepth 10000 in
set_option maxHeartbeats 1000000 in
theorem SameH (a b : List (List UInt8)) (ha : All32 a) (hb : All32 b) (A B : Option Addr) (n m ca cb : Nat) (hna : a.length = n) (hnb : b.length = m) (hn : n ≤ 100000) (hm : m ≤ 100000) (w : World) (ra : Rd w A (hcl a)) (rb : Rd w B (hcl b)) :
    Calls Tryd.prog 36 #[.slice A n ca, .slice B m cb] w fun e w' => e = .returned (.bool (a == b)) ∧ Below w.heap.size w w' := by
  by_cases hnm : n = m
  · subst hnm
    replace hna := Lib.hid hna
    replace hnb := Lib.hid hnb
    go_enter Tryd.func36, Tryd.ntmps36
    go_wp2
    go_loopw [5] (fun i wr => ∃ k : Nat, k ≤ n ∧ i = .int .i64 (k : Int) ∧ Hid (a.take k = b.take k) ∧ Below w.heap.size w wr) (fun i _ => n - (intOf i).toNat)
    case atStart => exact ⟨0, by omega, rfl, Lib.hid (by simp), Below.refl _ _⟩
    case round =>
      obtain ⟨k, hk, rfl, htk, hbw⟩ := hrel
      by_cases hlt : k < n
      · have t1 : decide ((k : Int) < (n : Int)) = true := by simp; omega
        obtain ⟨ba, oa, rfl⟩ := ra.someA (hcl_ne ha (by rw [hna.out]; omega))
        obtain ⟨bb, ob, rfl⟩ := rb.someA (hcl_ne hb (by rw [hnb.out]; omega))
        obtain ⟨x, hx⟩ : ∃ x, x = a.getD k [] := ⟨_, rfl⟩
        obtain ⟨y, hy⟩ : ∃ y, y = b.getD k [] := ⟨_, rfl⟩
        have hx32 : x.length = 32 := by rw [hx]; exact ha.get _ (by rw [hna.out]; omega)
        have hy32 : y.length = 32 := by rw [hy]; exact hb.get _ (by rw [hnb.out]; omega)
        have hrx := Lib.hid (fun w' (hE : Below w.heap.size w w') => hx ▸ (ra.below hE).hash ha k (by rw [hna.out]; omega))
        have hry := Lib.hid (fun w' (hE : Below w.heap.size w w') => hy ▸ (rb.below hE).hash hb k (by rw [hnb.out]; omega))
        have heq := neqH x y hx32 hy32
        obtain ⟨q, hq⟩ : ∃ q, q = (x == y) := ⟨_, rfl⟩
        rw [← hq] at heq
        have n0 : 0 ≤ (k : Int) := by omega
        have n1 : (k : Int) < (n : Int) := by omega
        replace hx := Lib.hid hx
        replace hy := Lib.hid hy
        replace hq := Lib.hid hq
        go_wp2_with fail
        have H1 : ∀ w', Ext wr.drew w' → Below w.heap.size w w' := fun w' hE => hbw.trans (hE.drew.mono hbw.size)
        refine wp_region_rel [] Ext (by kernel_rfl) (by kernel_rfl) (by kernel_rfl) Ext.refl Ext.trans (by intro p hp; cases hp) ?_
        refine relMove Ext.refl rfl rfl rfl rfl _ (.inl rfl) (by conv => lhs; whnf) (by simp only [List.set_cons_succ, List.set_cons_zero]; rfl) ?_
        refine relMove Ext.refl rfl rfl rfl rfl _ (.inl rfl) (by conv => lhs; whnf) (by simp only [List.set_cons_succ, List.set_cons_zero]; rfl) ?_
        refine relPure Ext.refl rfl rfl rfl rfl (fun w _ => by go_simp; first | done | rfl) (by simp only [List.set_cons_succ, List.set_cons_zero]; rfl) ?_
        refine relPure Ext.refl rfl rfl rfl rfl (c := .agg (hcs x)) (fun w hw => exec_load_mid _ _ rfl ba (oa + k * 32) rfl (x.map bv) _ (hrx.out w (H1 w hw)) Tryd.underlying28 rfl (by rw [List.length_map, hx32]; kernel_rfl)) (by simp only [List.set_cons_succ, List.set_cons_zero]; rfl) ?_
        refine relMove Ext.refl rfl rfl rfl rfl _ (.inl rfl) (by conv => lhs; whnf) (by simp only [List.set_cons_succ, List.set_cons_zero]; rfl) ?_
        refine relMove Ext.refl rfl rfl rfl rfl _ (.inl rfl) (by conv => lhs; whnf) (by simp only [List.set_cons_succ, List.set_cons_zero]; rfl) ?_
        refine relPure Ext.refl rfl rfl rfl rfl (fun w _ => by go_simp; first | done | rfl) (by simp only [List.set_cons_succ, List.set_cons_zero]; rfl) ?_
        refine relPure Ext.refl rfl rfl rfl rfl (c := .agg (hcs y)) (fun w hw => exec_load_mid _ _ rfl bb (ob + k * 32) rfl (y.map bv) _ (hry.out w (H1 w hw)) Tryd.underlying28 rfl (by rw [List.length_map, hy32]; kernel_rfl)) (by simp only [List.set_cons_succ, List.set_cons_zero]; rfl) ?_
        refine relPure Ext.refl rfl rfl rfl rfl (fun w _ => by go_simp; first | done | rfl) (by simp only [List.set_cons_succ, List.set_cons_zero]; rfl) ?_
        refine relEnd fun w2 hw2 => fill_end ?_
        have hb2 := H1 w2 hw2
        cases q
        · go_wp2
          go_ret
          refine ⟨?_, hb2⟩
          have hne : x ≠ y := by have := hq.out; intro e; rw [e] at this; simp at this
          have : (a == b) = false := by
            rw [beq_eq_false_iff_ne]
            intro e
            exact hne (by rw [hx.out, hy.out, e])
          rw [this]
          rfl
        · go_wp2
          refine ⟨⟨k + 1, by omega, by go_num, Lib.hid ?_, hb2⟩, ?_⟩
          · exact take_eq_step a b [] k (by rw [hna.out]; omega) (by rw [hnb.out]; omega) htk.out (by rw [← hx.out, ← hy.out]; exact eq_of_beq hq.out.symm)
          · simp [intOf]; omega
      · obtain rfl : k = n := by omega
        have t1 : decide ((k : Int) < (k : Int)) = false := by simp
        go_wp2
        go_ret
        refine ⟨?_, hbw⟩
        have h := htk.out
        rw [List.take_of_length_le (by rw [hna.out]; omega), List.take_of_length_le (by rw [hnb.out]; omega)] at h
        rw [h, beq_self_eq_true]
        rfl
  · have t1 : ((n : Int) != (m : Int)) = true := by simp; omega
    have hf : (a == b) = false := by
      rw [beq_eq_false_iff_ne]
      intro e
      exact hnm (by rw [← hna, ← hnb, e])
    rw [hf]
    replace hna := Lib.hid hna
    replace hnb := Lib.hid hnb
    replace hf := Lib.hid hf
    go_enter Tryd.func36, Tryd.ntmps36
    go_wp2
    go_ret
    exact ⟨rfl, Below.refl _ _⟩
end Go.Proofs.YtmdllemgjhkphaaDoor
/- Parts of a tree: the plain laws of what is built and read. -/
namespace Go.Proofs.YtmdllemgjhkphaaDoor
open Go.RowKit
theorem bit_or (x s t : Nat) : ((x ||| 2 ^ s) / 2 ^ t % 2 == 1) = (decide (s = t) || x / 2 ^ t % 2 == 1) := by
  have h : ∀ y : Nat, (y / 2 ^ t % 2 == 1) = y.testBit t := fun y => by rw [Nat.testBit_eq_decide_div_mod_eq]; rfl
  rw [h, h, Nat.testBit_or, Nat.testBit_two_pow, Bool.or_comm]
theorem pDig_push (fl : List UInt8) (j : Nat) (hj : j < 8 * (fl ++ [(0 : UInt8)]).length) (f : Nat → Bool) (h : ∀ i, i < 8 * fl.length → pDig fl i = some (f i)) (h0 : ∀ i, 8 * fl.length ≤ i → f i = false) : pDig (fl ++ [0]) j = some (f j) := by
  rw [List.length_append, List.length_singleton] at hj
  by_cases hl : j < 8 * fl.length
  · rw [← h j hl]
    unfold pDig
    rw [List.getElem?_append_left (by omega)]
  · rw [h0 j (by omega)]
    unfold pDig
    rw [List.getElem?_append_right (by omega), show j / 8 - fl.length = 0 by omega]
    simp
theorem pDig_set (fl : List UInt8) (k j : Nat) (hk : k < 8 * fl.length) (hj : j < 8 * fl.length) : pDig (fl.set (k / 8) (orBit (fl.getD (k / 8) 0) (k % 8))) j = some (decide (k = j) || (pDig fl j).getD false) := by
  have hkl : k / 8 < fl.length := by omega
  have hjl : j / 8 < fl.length := by omega
  rw [pDig_get hj, Option.getD_some]
  unfold pDig
  by_cases e : k / 8 = j / 8
  · rw [e, List.getElem?_set_self hjl, Option.map_some, orBit_nat _ _ (by omega), bit_or]
    congr 2
    exact decide_eq_decide.2 (by omega)
  · rw [List.getElem?_set_ne e, List.getElem?_eq_getElem hjl, List.getD_eq_getElem?_getD, List.getElem?_eq_getElem hjl]
    rw [decide_eq_false (by omega)]
    simp
theorem pFlags_digits (ds : List Bool) : ∀ j, j < 8 * (pFlags ds).length → pDig (pFlags ds) j = some (ds.getD j false) := by
  have key : ∀ es : List Bool, ∀ j, j < 8 * (pFlags es.reverse).length → pDig (pFlags es.reverse) j = some (es.reverse.getD j false) := by
    intro es
    induction es with
    | nil => intro j hj; simp [pFlags, pFlA] at hj
    | cons d es ih =>
      rw [List.reverse_cons]
      have hl := pFlags_length es.reverse
      have hg : ∀ j, (es.reverse ++ [d]).getD j false = if j = es.reverse.length then d else es.reverse.getD j false := fun j => by
        rw [List.getD_eq_getElem?_getD, List.getD_eq_getElem?_getD]
        rcases Nat.lt_trichotomy j es.reverse.length with h | h | h
        · rw [List.getElem?_append_left h, if_neg (by omega)]
        · rw [List.getElem?_append_right (by omega), h, Nat.sub_self, if_pos rfl]; rfl
        · rw [List.getElem?_append_right (by omega), if_neg (by omega), List.getElem?_eq_none (by rw [List.length_singleton]; omega), List.getElem?_eq_none (by omega)]
      have hP : ∀ j, j < 8 * (pFlP (pFlags es.reverse) es.reverse.length).length → pDig (pFlP (pFlags es.reverse) es.reverse.length) j = some (es.reverse.getD j false) := by
        intro j hj
        unfold pFlP at hj ⊢
        split at hj
        · rename_i h8
          rw [if_pos h8]
          refine pDig_push _ j hj _ ih fun i hi => ?_
          rw [List.getD_eq_getElem?_getD, List.getElem?_eq_none (by omega)]
          rfl
        · rename_i h8
          rw [if_neg h8]
          exact ih j hj
      have hPl := pFlP_length hl
      rw [pFlags_snoc]
      intro j hj
      rw [pFlS_length d hl] at hj
      rw [← hPl] at hj
      rw [hg]
      unfold pFlS
      cases d with
      | false =>
        rw [if_neg (by simp), hP j hj]
        split
        · rename_i e
          rw [e, List.getD_eq_getElem?_getD, List.getElem?_eq_none (Nat.le_refl _)]
          rfl
        · rfl
      | true =>
        rw [if_pos rfl, pDig_set _ _ _ (by rw [hPl]; omega) hj, hP j hj, Option.getD_some]
        split
        · rename_i e; rw [decide_eq_true e.symm]; rfl
        · rename_i e; rw [decide_eq_false (fun h => e h.symm)]; rfl
  have := key ds.reverse
  rwa [List.reverse_reverse] at this
/-- the hash of a node -/
def nH (ls : List (List (List UInt8))) (h i : Nat) : List UInt8 := (ls.getD h []).getD i []
/-- the matches below a node -/
def pMt (n : Nat) (ms : List Bool) (ls : List (List (List UInt8))) : Nat → Nat → List (Nat × List UInt8)
  | 0, i => if pHas n ms 0 i then [(i, nH ls 0 i)] else []
  | h + 1, i => if pHas n ms (h + 1) i then pMt n ms ls h (2 * i) ++ (if 2 * i + 1 < pWd n h then pMt n ms ls h (2 * i + 1) else []) else []
/-- no two that are paired, where it is gone to, are alike -/
def pOk (n : Nat) (ms : List Bool) (ls : List (List (List UInt8))) : Nat → Nat → Bool
  | 0, _ => true
  | h + 1, i => !pHas n ms (h + 1) i || (pOk n ms ls h (2 * i) && (!decide (2 * i + 1 < pWd n h) || (pOk n ms ls h (2 * i + 1) && nH ls h (2 * i) != nH ls h (2 * i + 1))))
theorem pHs_cons (ls : List (List (List UInt8))) (x : PV) (s : List PV) : pHs ls (x :: s) = (if x.told then [nH ls x.h x.i] else []) ++ pHs ls s := by
  unfold pHs
  cases h : x.told <;> simp [h, nH]
theorem pHs_not (ls : List (List (List UInt8))) (h i : Nat) (s : List PV) : pHs ls (⟨h + 1, i, true⟩ :: s) = pHs ls s := by
  rw [pHs_cons]
  simp [PV.told]
theorem pHs_append (ls : List (List (List UInt8))) (s t : List PV) : pHs ls (s ++ t) = pHs ls s ++ pHs ls t := by simp [pHs]
/-- the levels that are paired up -/
def PLv (n : Nat) (ls : List (List (List UInt8))) (H : Nat) : Prop := ∀ h i, h + 1 ≤ H → i < pWd n (h + 1) → nH ls (h + 1) i = if 2 * i + 1 < pWd n h then pairB (nH ls h (2 * i)) (nH ls h (2 * i + 1)) else pairB (nH ls h (2 * i)) (nH ls h (2 * i))
theorem plv_of (l : List (List UInt8)) (n : Nat) (hn : l.length = n) (h0 : 0 < n) (h1 : n ≤ 4096) : PLv n (mLv l) (pHt n) := by
  intro h i hh hi
  obtain ⟨e1, _, e3, e4⟩ := lvq_levels l n hn h0 h1
  have hx : (mLv l)[h]? = some ((mLv l)[h]'(by omega)) := List.getElem?_eq_getElem (by omega)
  have hy : (mLv l)[h + 1]? = some ((mLv l)[h + 1]'(by omega)) := List.getElem?_eq_getElem (by omega)
  have hl := e3 h _ hx
  obtain ⟨e5, _⟩ := e4 h _ _ hx hy
  generalize (mLv l)[h]'(by omega) = x at hx hl e5
  generalize (mLv l)[h + 1]'(by omega) = y at hy e5
  subst e5
  have gx : (mLv l).getD h [] = x := by rw [List.getD_eq_getElem?_getD, hx]; rfl
  have gy : (mLv l).getD (h + 1) [] = mUp x := by rw [List.getD_eq_getElem?_getD, hy]; rfl
  unfold nH
  rw [gx, gy, List.getD_eq_getElem?_getD, mUp_get x i (by rw [hl]; rw [pWd_succ] at hi; omega), Option.getD_some, hl]
  split
  · rw [show min (2 * i + 1) (pWd n h - 1) = 2 * i + 1 by omega]
  · rw [show min (2 * i + 1) (pWd n h - 1) = 2 * i by rw [pWd_succ] at hi; omega]
theorem getElem?_app {α : Type} {f : Nat → Option α} {a b : List α} {k : Nat} (h : ∀ j y, (a ++ b)[j]? = some y → f (k + j) = some y) : (∀ j y, a[j]? = some y → f (k + j) = some y) ∧ ∀ j y, b[j]? = some y → f (k + a.length + j) = some y :=
  ⟨fun j y hy => h j y (by rw [List.getElem?_append_left (List.getElem?_eq_some_iff.1 hy).1]; exact hy), fun j y hy => by
    rw [Nat.add_assoc]
    exact h _ y (by rw [List.getElem?_append_right (by omega), Nat.add_sub_cancel_left]; exact hy)⟩
/-- what is read of what was built -/
theorem pRd_vis {n : Nat} {ms : List Bool} {ls : List (List (List UInt8))} {H : Nat} (hP : PLv n ls H) (fl : List UInt8) (hs : List (List UInt8)) : ∀ (h i d k : Nat), h ≤ H → i < pWd n h → (∀ j x, ((pVis n ms h i).map PV.d)[j]? = some x → pDig fl (d + j) = some x) → (∀ j y, (pHs ls (pVis n ms h i))[j]? = some y → hs[k + j]? = some y) →
    pRd n fl hs h i d k = if pOk n ms ls h i then some ⟨nH ls h i, pMt n ms ls h i, d + (pVis n ms h i).length, k + (pHs ls (pVis n ms h i)).length⟩ else none := by
  intro h
  induction h with
  | zero =>
    intro i d k _ hi hd hk
    rw [pVis] at hd hk ⊢
    have e1 := hd 0 _ rfl
    have e2 : hs[k]? = some (nH ls 0 i) := hk 0 _ (by rw [pHs_cons]; simp [PV.told])
    rw [Nat.add_zero] at e1
    rw [pRd, e1, pOk, if_pos rfl, pMt, e2, pHs_cons]
    simp [PV.told, pHs]
  | succ h ih =>
    intro i d k hh hi hd hk
    rw [pVis] at hd hk ⊢
    have e1 := hd 0 _ rfl
    rw [Nat.add_zero] at e1
    rw [pRd, e1, Option.bind_some, pOk, pMt]
    cases hb : pHas n ms (h + 1) i with
    | false =>
      rw [hb] at hk
      have e2 : hs[k]? = some (nH ls (h + 1) i) := hk 0 _ (by rw [pHs_cons]; simp [PV.told])
      rw [if_neg (by simp), e2, pHs_cons]
      simp [PV.told, pHs]
    | true =>
      rw [hb] at hd hk
      rw [if_pos rfl] at hd hk
      rw [pHs_not] at hk ⊢
      have hd1 : ∀ j x, (((pVis n ms h (2 * i) ++ if 2 * i + 1 < pWd n h then pVis n ms h (2 * i + 1) else [])).map PV.d)[j]? = some x → pDig fl (d + 1 + j) = some x := fun j x hx => by
        have := hd (j + 1) x (by simpa using hx)
        rwa [show d + (j + 1) = d + 1 + j by omega] at this
      rw [List.map_append] at hd1
      simp only [↓reduceIte]
      rw [pHs_append] at hk ⊢
      obtain ⟨d1, d2⟩ := getElem?_app (f := pDig fl) hd1
      obtain ⟨k1, k2⟩ := getElem?_app (f := fun j => hs[j]?) hk
      rw [List.length_map] at d2
      have hi2 : 2 * i < pWd n h := by rw [pWd_succ] at hi; omega
      have hx := hP h i (by omega) hi
      rw [ih (2 * i) (d + 1) k (by omega) hi2 d1 k1]
      cases h1 : pOk n ms ls h (2 * i) with
      | false => simp
      | true =>
        rw [if_pos rfl, Option.bind_some]
        dsimp only
        split
        · rename_i hw
          rw [if_pos hw] at d2 k2 hx
          rw [ih (2 * i + 1) _ _ (by omega) hw d2 k2, decide_eq_true hw]
          cases h2 : pOk n ms ls h (2 * i + 1) with
          | false => simp
          | true =>
            rw [if_pos rfl, Option.bind_some]
            dsimp only
            by_cases ha : nH ls h (2 * i) = nH ls h (2 * i + 1)
            · rw [if_pos ha]
              simp [ha]
            · rw [if_neg ha]
              simp only [Bool.not_true, Bool.false_or, Bool.true_and, bne_iff_ne, ne_eq, ha, not_false_eq_true, if_true]
              rw [hx]
              simp only [List.length_cons, List.length_append]
              congr 2 <;> omega
        · rename_i hw
          rw [if_neg hw] at hx
          rw [decide_eq_false hw, hx]
          simp only [Bool.not_true, Bool.false_or, Bool.not_false, Bool.true_or, Bool.and_self, if_true, List.append_nil, List.length_cons]
          have : pHs ls ([] : List PV) = [] := rfl
          rw [this, List.append_nil]
          congr 2
          omega
end Go.Proofs.YtmdllemgjhkphaaDoor
