/- The law ProofWitness: the walk. -/
import Derived.Test.YtdkknincamkhpaaDoorQ1
import Derived.Test.YtdkknincamkhpaaDoorStr
namespace Go.Proofs.YtdkknincamkhpaaDoor
open Go.RowKit
attribute [local go_sem high] slB_lh slB_l slB_h
theorem QEqual (a b : List UInt8) (A B : Option Addr) (n m c d : Nat) (ha : a.length = n) (hb : b.length = m) (w : World) (ra : Rd w A (a.map bv)) (rb : Rd w B (b.map bv)) (q : Bool) (hq : (a == b) = q) :
    Calls Tryd.prog 42 #[.slice A n c, .slice B m d] w fun e w' => e = .returned (.bool q) ∧ w = w' := by
  have h1 := conv_str ra ha c
  have h2 := conv_str rb hb d
  clear ra rb ha hb
  cases q
  · have hq1 : (a == b) = false := hq
    clear hq
    go_enter Tryd.func42, Tryd.ntmps42
    go_wp2
    go_ret
    exact ⟨rfl, rfl⟩
  · obtain rfl := eq_of_beq hq
    clear hq
    go_enter Tryd.func42, Tryd.ntmps42
    go_wp2
    go_ret
    exact ⟨rfl, rfl⟩
set_option maxRecDepth 10000 in
set_option maxHeartbeats 4000000 in
theorem PWit (a b : List UInt8) (A B : Option Addr) (n m c d : Nat) (ha : a.length = n) (hb : b.length = m) (hc : n ≤ c) (hd : m ≤ d) (hn : n ≤ 100) (hm : m ≤ 100) (w : World) (ra : Rd w A (a.map bv)) (rb : Rd w B (b.map bv)) (hT : Tabs w) (q : Bool) (hq : (!(a == b) && (sumB a == sumB b)) = q) :
    Calls Tryd.prog 23 #[.slice A n c, .slice B m d] w fun e w' => e = .returned (.bool q) ∧ Below w.heap.size w w' := by
  have HS1 := fun w' r t => Sum a A n c ha hc (by omega) w' r t
  have HS2 := fun w' r t => Sum b B m d hb hd (by omega) w' r t
  have s1 := sumB_length a
  have s2 := sumB_length b
  obtain ⟨y1, hy1⟩ : ∃ z, z = sumB a := ⟨_, rfl⟩
  obtain ⟨y2, hy2⟩ : ∃ z, z = sumB b := ⟨_, rfl⟩
  rw [← hy1] at HS1 s1 hq
  rw [← hy2] at HS2 s2 hq
  have E := fun p q w => eqlHw y1 y2 s1 s2 p q w
  obtain ⟨u, hu⟩ : ∃ u, u = (a == b) := ⟨_, rfl⟩
  obtain ⟨v, hv⟩ : ∃ v, v = (y1 == y2) := ⟨_, rfl⟩
  have HQ := fun w' r r2 => QEqual a b A B n m c d ha hb w' r r2 u hu.symm
  rw [← hu, ← hv] at hq
  rw [← hv] at E
  clear ha hb s1 s2 hu hv
  replace hy1 := Lib.hid hy1
  replace hy2 := Lib.hid hy2
  replace HS1 := Lib.hid HS1
  replace HS2 := Lib.hid HS2
  replace HQ := Lib.hid HQ
  cases u <;> cases v <;>
  · subst hq
    replace E := Lib.hid E
    go_enter Tryd.func23, Tryd.ntmps23
    go_wp2_with (first
      | (go_at_call 42; refine (HQ.out w ra rb).mono ?_; rintro e w1 ⟨rfl, rfl⟩)
      | (go_at_call 36; (first
          | ((with_reducible refine (HS1.out w ra hT).mono ?_); rintro e w2 ⟨rfl, b2⟩)
          | ((with_reducible refine (HS2.out w2 (rb.below b2) (hT.below b2)).mono ?_); rintro e w3 ⟨rfl, b3⟩)))
      | ((with_reducible refine wpList_binG (op := .eql) (ty := 28) ?_ ?_ ?_ (E.out _ _ w3) ?_); rfl; rfl; rfl))
    go_ret
    first
      | exact ⟨rfl, Below.refl _ _⟩
      | exact ⟨rfl, b2.trans (b3.mono b2.size)⟩
/-- the last place among the first ones where a match at a place stands -/
def qIx (l : List (Nat × List UInt8)) (pos : Int) : Nat → Int
  | 0 => -1
  | j + 1 => match l[j]? with
    | some p => if (p.1 : Int) = pos then (j : Int) else qIx l pos j
    | none => qIx l pos j
theorem qIx_succ (l : List (Nat × List UInt8)) (pos : Int) (j : Nat) (p : Nat × List UInt8) (hp : l[j]? = some p) : qIx l pos (j + 1) = if (p.1 : Int) = pos then (j : Int) else qIx l pos j := by
  rw [qIx, hp]
theorem qIx_spec (l : List (Nat × List UInt8)) (pos : Int) (j : Nat) (hj : j ≤ l.length) : (qIx l pos j = -1 ∧ ∀ i p, i < j → l[i]? = some p → (p.1 : Int) ≠ pos) ∨ ∃ (i : Nat) (p : Nat × List UInt8), qIx l pos j = (i : Int) ∧ i < j ∧ l[i]? = some p ∧ (p.1 : Int) = pos := by
  induction j with
  | zero => exact .inl ⟨rfl, fun i p h => absurd h (Nat.not_lt_zero _)⟩
  | succ j ih =>
    have hp : l[j]? = some l[j] := List.getElem?_eq_getElem hj
    rw [qIx_succ l pos j _ hp]
    by_cases h : ((l[j]).1 : Int) = pos
    · rw [if_pos h]
      exact .inr ⟨j, l[j], rfl, Nat.lt_succ_self _, hp, h⟩
    · rw [if_neg h]
      rcases ih (by omega) with ⟨h1, h2⟩ | ⟨i, p, h1, h2, h3, h4⟩
      · refine .inl ⟨h1, fun i p hi hip => ?_⟩
        by_cases e : i = j
        · subst e
          rw [hp] at hip
          rw [← Option.some.inj hip]
          exact h
        · exact h2 i p (by omega) hip
      · exact .inr ⟨i, p, h1, by omega, h3, h4⟩
theorem qIx_find {tot : Nat} {hs : List (List UInt8)} {fl : List UInt8} (h32 : All32 hs) (pos : Int) (n : Nat) (hn : n = (extL (pExt tot hs fl)).length) :
    (qIx (extL (pExt tot hs fl)) pos n = -1 ∧ qFnd tot hs fl pos = none) ∨ ∃ (i : Nat) (q : Nat) (z : List UInt8), qIx (extL (pExt tot hs fl)) pos n = (i : Int) ∧ i < n ∧ (extL (pExt tot hs fl))[i]? = some (q, z) ∧ z.length = 32 ∧ qFnd tot hs fl pos = some (extX (pExt tot hs fl), z) := by
  obtain ⟨hw, l2, _, _⟩ := extL_facts (tot := tot) (fl := fl) h32
  rcases qIx_spec (extL (pExt tot hs fl)) pos n (by omega) with ⟨h1, h2⟩ | ⟨i, p, h1, h2, h3, h4⟩
  · refine .inl ⟨h1, ?_⟩
    have : (qFnd tot hs fl pos).isSome = false := by
      rw [qFnd_ext, Option.isSome_eq_false_iff, Option.isNone_iff_eq_none, qFind_none]
      intro p hp
      obtain ⟨i, hi⟩ := List.mem_iff_getElem?.1 hp
      exact h2 i p (by rw [hn]; exact (List.getElem?_eq_some_iff.1 hi).1) hi
    cases hq : qFnd tot hs fl pos with
    | none => rfl
    | some r => rw [hq] at this; cases this
  · obtain ⟨q, z⟩ := p
    have hm := List.mem_of_getElem? h3
    refine .inr ⟨i, q, z, h1, h2, h3, l2 _ hm, ?_⟩
    subst h4
    unfold qFnd
    cases hx : pExt tot hs fl with
    | none => rw [hx] at hm; cases hm
    | some r =>
      rw [hx] at hm
      rw [Option.bind_some, qFind_of_mem _ _ _ (pExt_rise hx) hm]
      rfl
theorem extE_of {tot : Nat} {hs : List (List UInt8)} {fl : List UInt8} {pos : Int} {r : List UInt8 × List UInt8} (h : qFnd tot hs fl pos = some r) : extE (pExt tot hs fl) = 0 := by
  unfold qFnd at h
  cases hx : pExt tot hs fl with
  | none => rw [hx] at h; cases h
  | some r => rfl
/-- a slice of bytes that was told -/
def UW (u : List UInt8) : VP := fun v w => ∃ A m c, v = .slice A m c ∧ u.length = m ∧ m ≤ c ∧ m ≤ 100 ∧ Rd w A (u.map bv)
def UVW (s : List UInt8 × List UInt8) (b : Bool) : VP := fun v w => ∃ x y, v = .tuple #[x, y, .bool b] ∧ UW s.1 x w ∧ UW s.2 y w
theorem UW.mono {u : List UInt8} {v : Value} {w w' : World} (h : Ext w w') : UW u v w → UW u v w' := by
  rintro ⟨A, m, c, h1, h2, h3, h4, h5⟩
  exact ⟨A, m, c, h1, h2, h3, h4, h5.below h⟩
theorem UVW.mono {s : List UInt8 × List UInt8} {b : Bool} {v : Value} {w w' : World} (h : Ext w w') : UVW s b v w → UVW s b v w' := by
  rintro ⟨x, y, h1, h2, h3⟩
  exact ⟨x, y, h1, h2.mono h, h3.mono h⟩
def clU : Option (List UInt8 × List UInt8) → List UInt8 × List UInt8
  | none => ([], [])
  | some s => s
theorem PClashU (fl1 : List UInt8) (hs1 : List (List UInt8)) (g1 : All32 hs1) (tot1 : Nat) (Ah1 : Option Addr) (nh1 ch1 : Nat) (Af1 : Option Addr) (nf1 cf1 : Nat) (hnh1 : hs1.length = nh1) (hnf1 : fl1.length = nf1) (ht1 : tot1 < 4294967296) (hnf12 : nf1 ≤ 10000) (hnh12 : nh1 ≤ 10000) (fl2 : List UInt8) (hs2 : List (List UInt8)) (g2 : All32 hs2) (tot2 : Nat) (Ah2 : Option Addr) (nh2 ch2 : Nat) (Af2 : Option Addr) (nf2 cf2 : Nat) (hnh2 : hs2.length = nh2) (hnf2 : fl2.length = nf2) (ht2 : tot2 < 4294967296) (hnf22 : nf2 ≤ 10000) (hnh22 : nh2 ≤ 10000) (pos : Int) (w : World) (hrh1 : Rd w Ah1 (hcl hs1)) (hrf1 : Rd w Af1 (fl1.map bv)) (hrh2 : Rd w Ah2 (hcl hs2)) (hrf2 : Rd w Af2 (fl2.map bv)) (hT : Tabs w) :
    Calls Tryd.prog 14 #[.agg (trc tot1 Ah1 nh1 ch1 Af1 nf1 cf1).toArray, .agg (trc tot2 Ah2 nh2 ch2 Af2 nf2 cf2).toArray, .int .i64 pos] w fun e w' => ∃ v, e = .returned v ∧ Below w.heap.size w w' ∧ UVW (clU (qClash tot1 hs1 fl1 tot2 hs2 fl2 pos)) (qClash tot1 hs1 fl1 tot2 hs2 fl2 pos).isSome v w' := by
  refine (PClash fl1 hs1 g1 tot1 Ah1 nh1 ch1 Af1 nf1 cf1 hnh1 hnf1 ht1 hnf12 hnh12 fl2 hs2 g2 tot2 Ah2 nh2 ch2 Af2 nf2 cf2 hnh2 hnf2 ht2 hnf22 hnh22 pos w hrh1 hrf1 hrh2 hrf2 hT).mono ?_
  intro e w' h
  unfold ClashPost at h
  cases hq : qClash tot1 hs1 fl1 tot2 hs2 fl2 pos with
  | none =>
    rw [hq] at h
    exact ⟨_, h.2, h.1, _, _, rfl, ⟨none, 0, 0, rfl, rfl, Nat.le_refl _, by omega, .inl rfl⟩, ⟨none, 0, 0, rfl, rfl, Nat.le_refl _, by omega, .inl rfl⟩⟩
  | some s =>
    rw [hq] at h
    obtain ⟨h1, A, m, c, B, n, d, h2, h3, h4, h5, h6, h7, h8, h9, h10⟩ := h
    exact ⟨_, h2, h1, _, _, rfl, ⟨A, m, c, rfl, h3, h4, h7, h9⟩, ⟨B, n, d, rfl, h5, h6, h8, h10⟩⟩
/-- who lies is witnessed against; no one else is -/
theorem qClash_wit {tot1 : Nat} {hs1 : List (List UInt8)} {fl1 : List UInt8} {tot2 : Nat} {hs2 : List (List UInt8)} {fl2 : List UInt8} {pos : Int} (h1 : All32 hs1) (h2 : All32 hs2) :
    (!((clU (qClash tot1 hs1 fl1 tot2 hs2 fl2 pos)).1 == (clU (qClash tot1 hs1 fl1 tot2 hs2 fl2 pos)).2) && (sumB (clU (qClash tot1 hs1 fl1 tot2 hs2 fl2 pos)).1 == sumB (clU (qClash tot1 hs1 fl1 tot2 hs2 fl2 pos)).2)) = (qClash tot1 hs1 fl1 tot2 hs2 fl2 pos).isSome := by
  cases hq : qClash tot1 hs1 fl1 tot2 hs2 fl2 pos with
  | none => simp only [clU, beq_self_eq_true, Bool.not_true, Bool.false_and, Option.isSome_none]
  | some s =>
    have hq0 := hq
    unfold qClash at hq
    obtain ⟨a, ha, hq⟩ := Option.bind_eq_some_iff.1 hq
    obtain ⟨b, hb, hq⟩ := Option.bind_eq_some_iff.1 hq
    split at hq
    · rename_i hc
      obtain ⟨c1, c2, c3⟩ := hc
      subst c2
      obtain ⟨x, y1⟩ := a
      obtain ⟨x2, y2⟩ := b
      dsimp only at c1 c3
      subst c1
      obtain ⟨s', e1, e2, e3, e4⟩ := qClash_lies h1 h2 ha hb c3
      rw [hq0] at e2
      have e5 := Option.some.inj e2
      simp only [clU, Option.isSome_some]
      rw [e5, beq_eq_false_iff_ne.2 e3, beq_iff_eq.2 e4]
      rfl
    · cases hq
theorem qClash_some {tot1 : Nat} {hs1 : List (List UInt8)} {fl1 : List UInt8} {tot2 : Nat} {hs2 : List (List UInt8)} {fl2 : List UInt8} {pos : Int} {r1 z1 r2 z2 : List UInt8} (h1 : All32 hs1) (h2 : All32 hs2) (ha : qFnd tot1 hs1 fl1 pos = some (r1, z1)) (hb : qFnd tot2 hs2 fl2 pos = some (r2, z2)) :
    (qClash tot1 hs1 fl1 tot2 hs2 fl2 pos).isSome = ((r1 == r2) && (decide (tot1 = tot2) && !(z1 == z2))) := by
  by_cases c1 : r1 = r2
  · by_cases c2 : tot1 = tot2
    · by_cases c3 : z1 = z2
      · unfold qClash
        rw [ha, hb, Option.bind_some, Option.bind_some, if_neg (fun h => h.2.2 c3)]
        subst c3
        simp
      · subst c1 c2
        obtain ⟨s, _, e, _⟩ := qClash_lies h1 h2 ha hb c3
        rw [e, beq_eq_false_iff_ne.2 c3]
        simp
    · unfold qClash
      rw [ha, hb, Option.bind_some, Option.bind_some, if_neg (fun h => c2 h.2.1)]
      simp [c2]
  · unfold qClash
    rw [ha, hb, Option.bind_some, Option.bind_some, if_neg (fun h => c1 h.1), beq_eq_false_iff_ne.2 c1]
    rfl
theorem qClash_no {tot1 : Nat} {hs1 : List (List UInt8)} {fl1 : List UInt8} {tot2 : Nat} {hs2 : List (List UInt8)} {fl2 : List UInt8} {pos : Int} (h : qFnd tot1 hs1 fl1 pos = none ∨ qFnd tot2 hs2 fl2 pos = none) : (qClash tot1 hs1 fl1 tot2 hs2 fl2 pos).isSome = false := by
  unfold qClash
  rcases h with h | h
  · rw [h]; rfl
  · rw [h]
    cases qFnd tot1 hs1 fl1 pos <;> rfl
set_option maxRecDepth 100000 in
set_option maxHeartbeats 8000000 in
theorem pwit_0 (tot1 : Nat) (Ah1 : Option Addr) (nh1 ch1 : Nat) (Af1 : Option Addr) (nf1 cf1 : Nat) (tot2 : Nat) (Ah2 : Option Addr) (nh2 ch2 : Nat) (Af2 : Option Addr) (nf2 cf2 : Nat) (pos : Int) (h : false = decide (nh1 ≤ 60 ∧ nf1 ≤ 60)) (w : World) (hT : Tabs w) : Calls Tryd.prog 5 #[.agg (trc tot1 Ah1 nh1 ch1 Af1 nf1 cf1).toArray, .agg (trc tot2 Ah2 nh2 ch2 Af2 nf2 cf2).toArray, .int .i64 pos] w fun e w' => e = .returned (.bool true) ∧ Below w.heap.size w w' := by
  obtain ⟨X, hX⟩ : ∃ X, X = w.heap.size := ⟨_, rfl⟩
  obtain ⟨W, hW⟩ : ∃ W, W = (w.alloc (.cells (trc tot1 Ah1 nh1 ch1 Af1 nf1 cf1).toArray 26)).alloc (.cells (trc tot2 Ah2 nh2 ch2 Af2 nf2 cf2).toArray 26) := ⟨_, rfl⟩
  have bW : Below w.heap.size w W := by rw [hW]; exact ((Below.refl _ _).alloc (Nat.le_refl _) _).alloc (by simp) _
  have aX : Av W X 26 (trc tot1 Ah1 nh1 ch1 Af1 nf1 cf1) := by rw [hW, hX]; exact Av.newer w (trc tot1 Ah1 nh1 ch1 Af1 nf1 cf1) _ _
  have aZ : Av W (X + 1) 26 (trc tot2 Ah2 nh2 ch2 Af2 nf2 cf2) := by rw [hW, hX, ← World.size_alloc w (.cells (trc tot1 Ah1 nh1 ch1 Af1 nf1 cf1).toArray 26)]; exact Av.new _ _ _
  have HA := Lib.hid (awake12 W (hT.below bW))
  replace hX := Lib.hid hX
  replace hW := Lib.hid hW
  have HW1 := Lib.hid (fun w' => PFew false tot1 Ah1 nh1 ch1 Af1 nf1 cf1 h w')
  clear h
  go_enter Tryd.func5, Tryd.ntmps5
  go_upto_region 1 with fail
  rw [← hX.out]
  rw [show (w.alloc (.cells (trc tot1 Ah1 nh1 ch1 Af1 nf1 cf1).toArray 26)).alloc (.cells (trc tot2 Ah2 nh2 ch2 Af2 nf2 cf2).toArray 26) = W from hW.out.symm]
  go_upto_region 2 with (go_at_call 9; refine (HA.out).mono ?_; rintro e w1 ⟨rfl, b1⟩)
  have aX1 := aX.below b1
  have aZ1 := aZ.below b1
  have bw1 := bW.trans (b1.mono bW.size)
  clear HA aX aZ b1
  go_wp2_with (first
    | ((with_reducible refine wpList_loadF 26 aX1 ?_ _ 3 (rfl) Tryd.underlying26 ?_ ?_ ?_); rfl; rfl; kernel_rfl)
    | (go_at_call 10; refine (HW1.out w1).mono ?_; rintro e w2 ⟨rfl, b2⟩))
  go_ret
  exact ⟨rfl, bw1.trans (b2.mono bw1.size)⟩
set_option maxRecDepth 100000 in
set_option maxHeartbeats 8000000 in
theorem pwit_01 (tot1 : Nat) (Ah1 : Option Addr) (nh1 ch1 : Nat) (Af1 : Option Addr) (nf1 cf1 : Nat) (tot2 : Nat) (Ah2 : Option Addr) (nh2 ch2 : Nat) (Af2 : Option Addr) (nf2 cf2 : Nat) (pos : Int) (h0 : true = decide (nh1 ≤ 60 ∧ nf1 ≤ 60)) (h : false = decide (nh2 ≤ 60 ∧ nf2 ≤ 60)) (w : World) (hT : Tabs w) : Calls Tryd.prog 5 #[.agg (trc tot1 Ah1 nh1 ch1 Af1 nf1 cf1).toArray, .agg (trc tot2 Ah2 nh2 ch2 Af2 nf2 cf2).toArray, .int .i64 pos] w fun e w' => e = .returned (.bool true) ∧ Below w.heap.size w w' := by
  obtain ⟨X, hX⟩ : ∃ X, X = w.heap.size := ⟨_, rfl⟩
  obtain ⟨W, hW⟩ : ∃ W, W = (w.alloc (.cells (trc tot1 Ah1 nh1 ch1 Af1 nf1 cf1).toArray 26)).alloc (.cells (trc tot2 Ah2 nh2 ch2 Af2 nf2 cf2).toArray 26) := ⟨_, rfl⟩
  have bW : Below w.heap.size w W := by rw [hW]; exact ((Below.refl _ _).alloc (Nat.le_refl _) _).alloc (by simp) _
  have aX : Av W X 26 (trc tot1 Ah1 nh1 ch1 Af1 nf1 cf1) := by rw [hW, hX]; exact Av.newer w (trc tot1 Ah1 nh1 ch1 Af1 nf1 cf1) _ _
  have aZ : Av W (X + 1) 26 (trc tot2 Ah2 nh2 ch2 Af2 nf2 cf2) := by rw [hW, hX, ← World.size_alloc w (.cells (trc tot1 Ah1 nh1 ch1 Af1 nf1 cf1).toArray 26)]; exact Av.new _ _ _
  have HA := Lib.hid (awake12 W (hT.below bW))
  replace hX := Lib.hid hX
  replace hW := Lib.hid hW
  have HW1 := Lib.hid (fun w' => PFew true tot1 Ah1 nh1 ch1 Af1 nf1 cf1 h0 w')
  have HW2 := Lib.hid (fun w' => PFew false tot2 Ah2 nh2 ch2 Af2 nf2 cf2 h w')
  clear h h0
  go_enter Tryd.func5, Tryd.ntmps5
  go_upto_region 1 with fail
  rw [← hX.out]
  rw [show (w.alloc (.cells (trc tot1 Ah1 nh1 ch1 Af1 nf1 cf1).toArray 26)).alloc (.cells (trc tot2 Ah2 nh2 ch2 Af2 nf2 cf2).toArray 26) = W from hW.out.symm]
  go_upto_region 2 with (go_at_call 9; refine (HA.out).mono ?_; rintro e w1 ⟨rfl, b1⟩)
  have aX1 := aX.below b1
  have aZ1 := aZ.below b1
  have bw1 := bW.trans (b1.mono bW.size)
  clear HA aX aZ b1
  go_wp2_with (first
    | ((with_reducible refine wpList_loadF 26 aX1 ?_ _ 3 (rfl) Tryd.underlying26 ?_ ?_ ?_); rfl; rfl; kernel_rfl)
    | ((with_reducible refine wpList_loadG 26 (aZ1.below b2) ?_ ?_ _ 3 (rfl) Tryd.underlying26 ?_ ?_ ?_); rfl; rfl; rfl; kernel_rfl)
    | (go_at_call 10; (first
        | ((with_reducible refine (HW1.out w1).mono ?_); rintro e w2 ⟨rfl, b2⟩)
        | ((with_reducible refine (HW2.out w2).mono ?_); rintro e w3 ⟨rfl, b3⟩))))
  go_ret
  exact ⟨rfl, (bw1.trans (b2.mono bw1.size)).trans (b3.mono (bw1.trans (b2.mono bw1.size)).size)⟩
set_option maxRecDepth 100000 in
set_option maxHeartbeats 16000000 in
theorem pwit_1 (fl1 : List UInt8) (hs1 : List (List UInt8)) (g1 : All32 hs1) (tot1 : Nat) (Ah1 : Option Addr) (nh1 ch1 : Nat) (Af1 : Option Addr) (nf1 cf1 : Nat) (hnh1 : hs1.length = nh1) (hnf1 : fl1.length = nf1) (ht1 : tot1 < 4294967296) (fl2 : List UInt8) (hs2 : List (List UInt8)) (g2 : All32 hs2) (tot2 : Nat) (Ah2 : Option Addr) (nh2 ch2 : Nat) (Af2 : Option Addr) (nf2 cf2 : Nat) (hnh2 : hs2.length = nh2) (hnf2 : fl2.length = nf2) (ht2 : tot2 < 4294967296) (pos : Int) (h60 : nh1 ≤ 60 ∧ nf1 ≤ 60) (k60 : nh2 ≤ 60 ∧ nf2 ≤ 60) (w : World) (hrh1 : Rd w Ah1 (hcl hs1)) (hrf1 : Rd w Af1 (fl1.map bv)) (hrh2 : Rd w Ah2 (hcl hs2)) (hrf2 : Rd w Af2 (fl2.map bv)) (hT : Tabs w) : Calls Tryd.prog 5 #[.agg (trc tot1 Ah1 nh1 ch1 Af1 nf1 cf1).toArray, .agg (trc tot2 Ah2 nh2 ch2 Af2 nf2 cf2).toArray, .int .i64 pos] w fun e w' => e = .returned (.bool true) ∧ Below w.heap.size w w' := by
  obtain ⟨X, hX⟩ : ∃ X, X = w.heap.size := ⟨_, rfl⟩
  obtain ⟨W, hW⟩ : ∃ W, W = (w.alloc (.cells (trc tot1 Ah1 nh1 ch1 Af1 nf1 cf1).toArray 26)).alloc (.cells (trc tot2 Ah2 nh2 ch2 Af2 nf2 cf2).toArray 26) := ⟨_, rfl⟩
  have bW : Below w.heap.size w W := by rw [hW]; exact ((Below.refl _ _).alloc (Nat.le_refl _) _).alloc (by simp) _
  have aX : Av W X 26 (trc tot1 Ah1 nh1 ch1 Af1 nf1 cf1) := by rw [hW, hX]; exact Av.newer w (trc tot1 Ah1 nh1 ch1 Af1 nf1 cf1) _ _
  have aZ : Av W (X + 1) 26 (trc tot2 Ah2 nh2 ch2 Af2 nf2 cf2) := by rw [hW, hX, ← World.size_alloc w (.cells (trc tot1 Ah1 nh1 ch1 Af1 nf1 cf1).toArray 26)]; exact Av.new _ _ _
  have HA := Lib.hid (awake12 W (hT.below bW))
  replace hX := Lib.hid hX
  replace hW := Lib.hid hW
  have HW1 := fun w' => PFew true tot1 Ah1 nh1 ch1 Af1 nf1 cf1 (by simp only [h60, decide_true, and_self]) w'
  have HW2 := fun w' => PFew true tot2 Ah2 nh2 ch2 Af2 nf2 cf2 (by simp only [k60, decide_true, and_self]) w'
  have HE1 := fun w' r r2 t => PExtH fl1 hs1 g1 tot1 Ah1 nh1 ch1 Af1 nf1 cf1 hnh1 hnf1 ht1 (by omega) (by omega) w' r r2 t
  have HE2 := fun w' r r2 t => PExtH fl2 hs2 g2 tot2 Ah2 nh2 ch2 Af2 nf2 cf2 hnh2 hnf2 ht2 (by omega) (by omega) w' r r2 t
  have HC := fun w' r r2 r3 r4 t => PClashU fl1 hs1 g1 tot1 Ah1 nh1 ch1 Af1 nf1 cf1 hnh1 hnf1 ht1 (by omega) (by omega) fl2 hs2 g2 tot2 Ah2 nh2 ch2 Af2 nf2 cf2 hnh2 hnf2 ht2 (by omega) (by omega) pos w' r r2 r3 r4 t
  have HP1 := fun w' => PTree tot1 Ah1 nh1 ch1 Af1 nf1 cf1 w'
  have HP2 := fun w' => PTree tot2 Ah2 nh2 ch2 Af2 nf2 cf2 w'
  have hwit := qClash_wit (tot1 := tot1) (fl1 := fl1) (tot2 := tot2) (fl2 := fl2) (pos := pos) g1 g2
  have hcso := fun r1 z1 r2 z2 (a : qFnd tot1 hs1 fl1 pos = some (r1, z1)) (b : qFnd tot2 hs2 fl2 pos = some (r2, z2)) => qClash_some g1 g2 a b
  have hcn := fun (h : qFnd tot1 hs1 fl1 pos = none ∨ qFnd tot2 hs2 fl2 pos = none) => qClash_no h
  obtain ⟨-, l12, l13, l14⟩ := extL_facts (tot := tot1) (fl := fl1) g1
  obtain ⟨-, l22, l23, l24⟩ := extL_facts (tot := tot2) (fl := fl2) g2
  obtain ⟨n1, hn1⟩ : ∃ n, n = (extL (pExt tot1 hs1 fl1)).length := ⟨_, rfl⟩
  obtain ⟨n2, hn2⟩ : ∃ n, n = (extL (pExt tot2 hs2 fl2)).length := ⟨_, rfl⟩
  have ix1 := qIx_find (tot := tot1) (fl := fl1) g1 pos n1 hn1
  have ix2 := qIx_find (tot := tot2) (fl := fl2) g2 pos n2 hn2
  have ee1 := fun r (h : qFnd tot1 hs1 fl1 pos = some r) => extE_of h
  have ee2 := fun r (h : qFnd tot2 hs2 fl2 pos = some r) => extE_of h
  have ed1 : extE (pExt tot1 hs1 fl1) = 0 ∨ extE (pExt tot1 hs1 fl1) = 13 := by cases pExt tot1 hs1 fl1; exact .inr rfl; exact .inl rfl
  have ed2 : extE (pExt tot2 hs2 fl2) = 0 ∨ extE (pExt tot2 hs2 fl2) = 13 := by cases pExt tot2 hs2 fl2; exact .inr rfl; exact .inl rfl
  have hb1 : n1 ≤ 60 := by omega
  have hb2 : n2 ≤ 60 := by omega
  rw [← hn1] at HE1
  rw [← hn2] at HE2
  obtain ⟨X1, hX1⟩ : ∃ x, x = extX (pExt tot1 hs1 fl1) := ⟨_, rfl⟩
  obtain ⟨L1, hL1⟩ : ∃ x, x = extL (pExt tot1 hs1 fl1) := ⟨_, rfl⟩
  obtain ⟨E1, hE1⟩ : ∃ x, x = extE (pExt tot1 hs1 fl1) := ⟨_, rfl⟩
  obtain ⟨X2, hX2⟩ : ∃ x, x = extX (pExt tot2 hs2 fl2) := ⟨_, rfl⟩
  obtain ⟨L2, hL2⟩ : ∃ x, x = extL (pExt tot2 hs2 fl2) := ⟨_, rfl⟩
  obtain ⟨E2, hE2⟩ : ∃ x, x = extE (pExt tot2 hs2 fl2) := ⟨_, rfl⟩
  rw [← hX1] at HE1 l13 ix1
  rw [← hL1] at HE1 l12 hn1 ix1
  rw [← hE1] at HE1 ee1 ed1
  rw [← hX2] at HE2 l23 ix2
  rw [← hL2] at HE2 l22 hn2 ix2
  rw [← hE2] at HE2 ee2 ed2
  obtain ⟨O, hO⟩ : ∃ x, x = (qClash tot1 hs1 fl1 tot2 hs2 fl2 pos).isSome := ⟨_, rfl⟩
  obtain ⟨S, hS⟩ : ∃ x, x = clU (qClash tot1 hs1 fl1 tot2 hs2 fl2 pos) := ⟨_, rfl⟩
  rw [← hO] at HC hwit hcso hcn
  rw [← hS] at HC hwit
  have X1v32 : (X1.map bv).length = 32 := by rw [List.length_map, l13]
  have X2v32 : (X2.map bv).length = 32 := by rw [List.length_map, l23]
  have X1one : (X1.map bv).all (·.oneCell') = true := List.all_eq_true.2 (bv_one X1)
  have X2one : (X2.map bv).all (·.oneCell') = true := List.all_eq_true.2 (bv_one X2)
  have EX := fun p q w => eqlHw X1 X2 l13 l23 p q w
  obtain ⟨c3, hc3⟩ : ∃ c, c = (X1 == X2) := ⟨_, rfl⟩
  rw [← hc3] at EX
  obtain ⟨s1, s2⟩ := S
  dsimp only at hwit
  have HV := fun A B m n c d a1 a2 a3 a4 a5 a6 w' r r2 t => PWit s1 s2 A B m n c d a1 a2 a3 a4 a5 a6 w' r r2 t O hwit
  clear l14 l24 hwit
  replace hcso := Lib.hid hcso
  replace hcn := Lib.hid hcn
  replace l12 := Lib.hid l12
  replace l13 := Lib.hid l13
  replace l22 := Lib.hid l22
  replace l23 := Lib.hid l23
  replace hn1 := Lib.hid hn1
  replace hn2 := Lib.hid hn2
  replace ix1 := Lib.hid ix1
  replace ix2 := Lib.hid ix2
  replace ee1 := Lib.hid ee1
  replace ee2 := Lib.hid ee2
  replace ed1 := Lib.hid ed1
  replace ed2 := Lib.hid ed2
  replace hX1 := Lib.hid hX1
  replace hL1 := Lib.hid hL1
  replace hE1 := Lib.hid hE1
  replace hX2 := Lib.hid hX2
  replace hL2 := Lib.hid hL2
  replace hE2 := Lib.hid hE2
  replace hO := Lib.hid hO
  replace hS := Lib.hid hS
  replace X1v32 := Lib.hid X1v32
  replace X2v32 := Lib.hid X2v32
  replace X1one := Lib.hid X1one
  replace X2one := Lib.hid X2one
  replace EX := Lib.hid EX
  replace hc3 := Lib.hid hc3
  replace HV := Lib.hid HV
  replace HW1 := Lib.hid HW1
  replace HW2 := Lib.hid HW2
  replace HE1 := Lib.hid HE1
  replace HE2 := Lib.hid HE2
  replace HC := Lib.hid HC
  replace HP1 := Lib.hid HP1
  replace HP2 := Lib.hid HP2
  replace hnh1 := Lib.hid hnh1
  replace hnf1 := Lib.hid hnf1
  replace hnh2 := Lib.hid hnh2
  replace hnf2 := Lib.hid hnf2
  go_enter Tryd.func5, Tryd.ntmps5
  go_upto_region 1 with fail
  rw [← hX.out]
  rw [show (w.alloc (.cells (trc tot1 Ah1 nh1 ch1 Af1 nf1 cf1).toArray 26)).alloc (.cells (trc tot2 Ah2 nh2 ch2 Af2 nf2 cf2).toArray 26) = W from hW.out.symm]
  go_upto_region 2 with (go_at_call 9; refine (HA.out).mono ?_; rintro e w1 ⟨rfl, b1⟩)
  have aX1 := aX.below b1
  have aZ1 := aZ.below b1
  have bw1 := bW.trans (b1.mono bW.size)
  clear HA aX aZ b1
  go_upto_region 4 with (first
    | ((with_reducible refine wpList_loadF 26 aX1 ?_ _ 3 (rfl) Tryd.underlying26 ?_ ?_ ?_); rfl; rfl; kernel_rfl)
    | ((with_reducible refine wpList_loadG 26 (aZ1.below b2) ?_ ?_ _ 3 (rfl) Tryd.underlying26 ?_ ?_ ?_); rfl; rfl; rfl; kernel_rfl)
    | (go_at_call 10; (first
        | ((with_reducible refine (HW1.out w1).mono ?_); rintro e w2 ⟨rfl, b2⟩)
        | ((with_reducible refine (HW2.out w2).mono ?_); rintro e w3 ⟨rfl, b3⟩))))
  have b13 := b2.trans (b3.mono b2.size)
  have bw3 := bw1.trans (b13.mono bw1.size)
  have aX3 := aX1.below b13
  have aZ3 := aZ1.below b13
  clear aX1 aZ1 b2 b3 b13 bw1 HW1 HW2
  go_upto_region 5 with (first
    | ((with_reducible refine wpList_loadF 26 aX3 ?_ _ 3 (rfl) Tryd.underlying26 ?_ ?_ ?_); rfl; rfl; kernel_rfl)
    | (go_at_call 12; refine (HP1.out w3).mono ?_; rintro e w4 ⟨rfl, b4⟩; have bw4 := bw3.trans (b4.mono bw3.size))
    | (go_at_call 22; refine (HE1.out w4 (hrh1.below bw4) (hrf1.below bw4) (hT.below bw4)).mono ?_; rintro e w5 ⟨b5, A1, c1, rfl, hlc1, rl15⟩)
    | ((with_reducible refine wpList_storeF 28 ((Below.refl w5.heap.size w5).alloc (Nat.le_refl _) _) (heap_alloc_new _ _) (Nat.le_refl _) (X1.map bv) ?_ ?_ 32 X1v32.out ?_ ?_ ?_ ?_); rfl; rfl; kernel_rfl; rfl; exact X1one.out; intro w6 aG b6 k6 z6; clear k6; replace z6 := Lib.hid z6))
  obtain ⟨G, hG⟩ : ∃ G, G = w5.heap.size := ⟨_, rfl⟩
  rw [← hG] at aG ⊢
  replace hG := Lib.hid hG
  have b36 := b4.trans ((b5.trans (b6.mono b5.size)).mono b4.size)
  have bw6 := bw3.trans (b36.mono bw3.size)
  have aX6 := aX3.below b36
  have aZ6 := aZ3.below b36
  have rl16 := rl15.below b6
  clear aX3 aZ3 b4 b5 b6 b36 bw3 bw4 rl15 HE1
  go_upto_region 8 with (first
    | ((with_reducible refine wpList_loadF 26 aZ6 ?_ _ 3 (rfl) Tryd.underlying26 ?_ ?_ ?_); rfl; rfl; kernel_rfl)
    | (go_at_call 12; refine (HP2.out w6).mono ?_; rintro e w7 ⟨rfl, b7⟩; have bw7 := bw6.trans (b7.mono bw6.size))
    | (go_at_call 22; refine (HE2.out w7 (hrh2.below bw7) (hrf2.below bw7) (hT.below bw7)).mono ?_; rintro e w8 ⟨b8, A2, c2, rfl, hlc2, rl28⟩)
    | ((with_reducible refine wpList_storeF 28 ((Below.refl w8.heap.size w8).alloc (Nat.le_refl _) _) (heap_alloc_new _ _) (Nat.le_refl _) (X2.map bv) ?_ ?_ 32 X2v32.out ?_ ?_ ?_ ?_); rfl; rfl; kernel_rfl; rfl; exact X2one.out; intro w9 aG2 b9 k9 z9; clear k9; replace z9 := Lib.hid z9))
  obtain ⟨G2, hG2⟩ : ∃ G2, G2 = w8.heap.size := ⟨_, rfl⟩
  rw [← hG2] at aG2 ⊢
  replace hG2 := Lib.hid hG2
  have b69 := b7.trans ((b8.trans (b9.mono b8.size)).mono b7.size)
  have bw9 := bw6.trans (b69.mono bw6.size)
  have aX9 := aX6.below b69
  have aZ9 := aZ6.below b69
  have aG9 := aG.below b69
  have rl1 := rl16.below b69
  have rl2 := rl28.below b9
  clear aX6 aZ6 aG b7 b8 b9 b69 bw6 bw7 rl16 rl28 HE2
  go_wp2
  go_loopw [14, 16] (fun x i wr => ∃ (j : Nat) (I : Int), j ≤ n1 ∧ x = .int .i64 I ∧ i = .int .i64 (j : Int) ∧ Hid (I = qIx L1 pos j) ∧ w9 = wr) (fun _ i _ => n1 - (intOf i).toNat)
  case atStart => exact ⟨0, -1, Nat.zero_le _, rfl, rfl, Lib.hid rfl, rfl⟩
  case round =>
    obtain ⟨j, I, hj, rfl, rfl, hI, rfl⟩ := hrel
    by_cases hlt : j < n1
    · have u1 : decide ((j : Int) < (n1 : Int)) = true := by simp; omega
      have m0 : 0 ≤ (j : Int) := by omega
      have m1 : (j : Int) < (n1 : Int) := by omega
      obtain ⟨p, hp⟩ : ∃ p, L1[j]? = some p := ⟨_, List.getElem?_eq_getElem (by rw [← hn1.out]; exact hlt)⟩
      obtain ⟨bX, oX, rfl⟩ := rl1.someA (mlc_ne0 (by rw [← hn1.out]; omega))
      have cr := (rl1.match_atq l12.out j p hp).1
      have hq := qIx_succ L1 pos j p hp
      rw [← hI.out] at hq
      obtain ⟨q, z⟩ := p
      dsimp only at hq cr
      clear hI hp
      by_cases he : (q : Int) = pos
      · have e1 : ((q : Int) == pos) = true := by simp [he]
        rw [if_pos he] at hq
        clear he
        replace hq := Lib.hid hq
        go_wp2
        refine ⟨⟨j + 1, (j : Int), by omega, rfl, by go_num, Lib.hid hq.out.symm, trivial⟩, ?_⟩
        simp only [intOf]
        omega
      · have e1 : ((q : Int) == pos) = false := by simp [he]
        rw [if_neg he] at hq
        clear he
        replace hq := Lib.hid hq
        go_wp2
        refine ⟨⟨j + 1, I, by omega, rfl, by go_num, Lib.hid hq.out.symm, trivial⟩, ?_⟩
        simp only [intOf]
        omega
    · obtain rfl : j = n1 := by omega
      have u1 : decide ((j : Int) < (j : Int)) = false := by simp
      go_wp2
      go_loopw [15, 17] (fun x i wr => ∃ (j : Nat) (I : Int), j ≤ n2 ∧ x = .int .i64 I ∧ i = .int .i64 (j : Int) ∧ Hid (I = qIx L2 pos j) ∧ w9 = wr) (fun _ i _ => n2 - (intOf i).toNat)
      case atStart => exact ⟨0, -1, Nat.zero_le _, rfl, rfl, Lib.hid rfl, rfl⟩
      case round =>
        obtain ⟨k, J, hk, rfl, rfl, hJ, rfl⟩ := hrel
        by_cases hlt2 : k < n2
        · have u2 : decide ((k : Int) < (n2 : Int)) = true := by simp; omega
          have m0 : 0 ≤ (k : Int) := by omega
          have m1 : (k : Int) < (n2 : Int) := by omega
          obtain ⟨p, hp⟩ : ∃ p, L2[k]? = some p := ⟨_, List.getElem?_eq_getElem (by rw [← hn2.out]; exact hlt2)⟩
          obtain ⟨bX, oX, rfl⟩ := rl2.someA (mlc_ne0 (by rw [← hn2.out]; omega))
          have cr := (rl2.match_atq l22.out k p hp).1
          have hq := qIx_succ L2 pos k p hp
          rw [← hJ.out] at hq
          obtain ⟨q, z⟩ := p
          dsimp only at hq cr
          clear hJ hp
          by_cases he : (q : Int) = pos
          · have e1 : ((q : Int) == pos) = true := by simp [he]
            rw [if_pos he] at hq
            clear he
            replace hq := Lib.hid hq
            go_wp2
            refine ⟨⟨k + 1, (k : Int), by omega, rfl, by go_num, Lib.hid hq.out.symm, trivial⟩, ?_⟩
            simp only [intOf]
            omega
          · have e1 : ((q : Int) == pos) = false := by simp [he]
            rw [if_neg he] at hq
            clear he
            replace hq := Lib.hid hq
            go_wp2
            refine ⟨⟨k + 1, J, by omega, rfl, by go_num, Lib.hid hq.out.symm, trivial⟩, ?_⟩
            simp only [intOf]
            omega
        · obtain rfl : k = n2 := by omega
          have u2 : decide ((k : Int) < (k : Int)) = false := by simp
          have jx1 := ix1.out
          have jx2 := ix2.out
          rw [← hI.out] at jx1
          rw [← hJ.out] at jx2
          clear hI hJ ix1 ix2
          replace jx1 := Lib.hid jx1
          replace jx2 := Lib.hid jx2
          go_upto_region 18 with fail
          refine wp_region_rel [(5, UVW (s1, s2) O), (6, UVW (s1, s2) O), (7, UW s1), (8, UW s2), (10, UW s1), (11, UW s2)] Ext (by kernel_rfl) (by kernel_rfl) (by kernel_rfl) Ext.refl Ext.trans (by
            intro p hp v w w' hR
            simp only [List.mem_cons, List.not_mem_nil, or_false] at hp
            rcases hp with rfl | rfl | rfl | rfl | rfl | rfl
            · exact UVW.mono hR
            · exact UVW.mono hR
            · exact UW.mono hR
            · exact UW.mono hR
            · exact UW.mono hR
            · exact UW.mono hR) ?_
          refine relPure Ext.refl rfl rfl rfl rfl (c := .agg ((trc tot1 Ah1 nh1 ch1 Af1 nf1 cf1)).toArray) (fun w hw => exec_loadAv (aX9.below hw.drew) _ _ rfl rfl _ 3 rfl Tryd.underlying26 rfl (by kernel_rfl)) (by simp only [List.set_cons_succ, List.set_cons_zero]; rfl) ?_
          refine relCall1 rfl rfl rfl rfl (c := .agg (trc tot1 Ah1 nh1 ch1 Af1 nf1 cf1).toArray) 12 #[.agg (trc tot1 Ah1 nh1 ch1 Af1 nf1 cf1).toArray] (fun w => by go_simp) (fun w hw => (HP1.out w).mono ?_) (by simp only [List.set_cons_succ, List.set_cons_zero]; rfl) ?_
          · rintro e w' ⟨rfl, b⟩
            exact ⟨rfl, b⟩
          refine relPure Ext.refl rfl rfl rfl rfl (c := .agg ((trc tot2 Ah2 nh2 ch2 Af2 nf2 cf2)).toArray) (fun w hw => exec_loadAv (aZ9.below hw.drew) _ _ rfl rfl _ 3 rfl Tryd.underlying26 rfl (by kernel_rfl)) (by simp only [List.set_cons_succ, List.set_cons_zero]; rfl) ?_
          refine relCall1 rfl rfl rfl rfl (c := .agg (trc tot2 Ah2 nh2 ch2 Af2 nf2 cf2).toArray) 12 #[.agg (trc tot2 Ah2 nh2 ch2 Af2 nf2 cf2).toArray] (fun w => by go_simp) (fun w hw => (HP2.out w).mono ?_) (by simp only [List.set_cons_succ, List.set_cons_zero]; rfl) ?_
          · rintro e w' ⟨rfl, b⟩
            exact ⟨rfl, b⟩
          refine relMove Ext.refl rfl rfl rfl rfl _ (.inl rfl) (by conv => lhs; whnf) (by simp only [List.set_cons_succ, List.set_cons_zero]; rfl) ?_
          refine relCall _ rfl rfl rfl 14 #[.agg (trc tot1 Ah1 nh1 ch1 Af1 nf1 cf1).toArray, .agg (trc tot2 Ah2 nh2 ch2 Af2 nf2 cf2).toArray, .int .i64 pos] (fun w => by go_simp) (fun w hw => (HC.out w (hrh1.below (bw9.trans (hw.drew.mono bw9.size))) (hrf1.below (bw9.trans (hw.drew.mono bw9.size))) (hrh2.below (bw9.trans (hw.drew.mono bw9.size))) (hrf2.below (bw9.trans (hw.drew.mono bw9.size))) (hT.below (bw9.trans (hw.drew.mono bw9.size)))).mono ?_) ?_
          · rintro e w' ⟨v, rfl, hb, hv⟩
            exact ⟨v, rfl, hb, hv⟩
          refine relWord _ rfl (fun w hw => fill_take rfl rfl fun u hu => fill_none rfl (relOp_yes rfl ?_)) ?_
          · go_simp
            exact ⟨Ext.refl _, hu⟩
          refine relWord _ rfl (fun w hw => fill_skip rfl (fill_take rfl rfl fun u hu => fill_none rfl (relOp_yes rfl ?_))) ?_
          · obtain ⟨x, y, rfl, h1, h2⟩ := hu
            go_simp
            exact ⟨Ext.refl _, h1⟩
          refine relWord _ rfl (fun w hw => fill_skip rfl (fill_take rfl rfl fun u hu => fill_none rfl (relOp_yes rfl ?_))) ?_
          · obtain ⟨x, y, rfl, h1, h2⟩ := hu
            go_simp
            exact ⟨Ext.refl _, h2⟩
          refine relOn rfl rfl (c := .bool O) (fun w hw => fill_skip rfl (fill_take rfl rfl fun u hu => fill_none rfl (relOp_yes rfl ?_))) (by simp only [List.set_cons_succ, List.set_cons_zero]; rfl) ?_
          · obtain ⟨x, y, rfl, h1, h2⟩ := hu
            go_simp
            exact ⟨Ext.refl _, rfl⟩
          refine relWord _ rfl (fun w hw => fill_skip rfl (fill_skip rfl (fill_take rfl rfl fun u hu => fill_none rfl (relOp_yes rfl ?_)))) ?_
          · go_simp
            exact ⟨Ext.refl _, hu⟩
          refine relWord _ rfl (fun w hw => fill_skip rfl (fill_skip rfl (fill_skip rfl (fill_take rfl rfl fun u hu => fill_none rfl (relOp_yes rfl ?_))))) ?_
          · go_simp
            exact ⟨Ext.refl _, hu⟩
          refine relMove Ext.refl rfl rfl rfl rfl _ (.inr rfl) (by conv => lhs; whnf) (by simp only [List.set_cons_succ, List.set_cons_zero]; rfl) ?_
          refine relEnd fun w10 hw10 => fill_take rfl rfl fun v1 h1 => fill_take rfl rfl fun v2 h2 => fill_take rfl rfl fun v3 h3 => fill_take rfl rfl fun v4 h4 => fill_take rfl rfl fun v5 h5 => fill_take rfl rfl fun v6 h6 => fill_end ?_
          obtain ⟨_, _, rfl, -, -⟩ := h1
          obtain ⟨_, _, rfl, -, -⟩ := h2
          obtain ⟨_, _, _, rfl, -, -, -, -⟩ := h3
          obtain ⟨_, _, _, rfl, -, -, -, -⟩ := h4
          obtain ⟨U, mu, cu, rfl, ul, uc, ub, ur⟩ := h5
          obtain ⟨V, mv, cv, rfl, vl, vc, vb, vr⟩ := h6
          simp only [List.set_cons_succ, List.set_cons_zero]
          have b10 := hw10.drew
          have bw10 := bw9.trans (b10.mono bw9.size)
          have aX10 := aX9.below b10
          have aZ10 := aZ9.below b10
          have aG10 := aG9.below b10
          have aG210 := aG2.below b10
          have rl110 := rl1.below b10
          have rl210 := rl2.below b10
          have HV2 := HV.out U V mu mv cu cv ul vl uc vc ub vb
          replace ul := Lib.hid ul
          replace vl := Lib.hid vl
          replace HV2 := Lib.hid HV2
          clear aX9 aZ9 aG9 aG2 rl1 rl2 bw9 hw10 b10 HC HV
          rcases ed1.out with x0 | x0
          · subst x0
            rcases ed2.out with y0 | y0
            · subst y0
              have hE1' := hE1
              clear hE1 hE2
              rcases jx1.out with ⟨i0, q1⟩ | ⟨i1, p1, z1, i0, hi1, hp1, z132, q1⟩
              · have hOf : O = false := hcn.out (.inl q1)
                subst hOf
                subst i0
                clear jx1 q1 hE1'
                cases c3 with
                | false =>
                  skip
                  go_upto_region 19 with fail
                  refine wp_region_rel [] Ext (by kernel_rfl) (by kernel_rfl) (by kernel_rfl) Ext.refl Ext.trans (by intro p hp; cases hp) ?_
                  refine relMove Ext.refl rfl rfl rfl rfl _ (.inl rfl) (by conv => lhs; whnf) (by simp only [List.set_cons_succ, List.set_cons_zero]; rfl) ?_
                  refine relPure Ext.refl rfl rfl rfl rfl (c := .bool true) (fun w _ => by go_simp; first | done | rfl) (by simp only [List.set_cons_succ, List.set_cons_zero]; rfl) ?_
                  refine relMove Ext.refl rfl rfl rfl rfl _ (.inl rfl) (by conv => lhs; whnf) (by simp only [List.set_cons_succ, List.set_cons_zero]; rfl) ?_
                  refine relMove Ext.refl rfl rfl rfl rfl _ (.inl rfl) (by conv => lhs; whnf) (by simp only [List.set_cons_succ, List.set_cons_zero]; rfl) ?_
                  refine relPure Ext.refl rfl rfl rfl rfl (c := .bool true) (fun w _ => by go_simp; first | done | rfl) (by simp only [List.set_cons_succ, List.set_cons_zero]; rfl) ?_
                  refine relPick Ext.refl rfl rfl rfl rfl _ _ _ rfl rfl (by conv => lhs; whnf) (by simp only [List.set_cons_succ, List.set_cons_zero]; rfl) ?_
                  refine relMove Ext.refl rfl rfl rfl rfl _ (.inl rfl) (by conv => lhs; whnf) (by simp only [List.set_cons_succ, List.set_cons_zero]; rfl) ?_
                  refine relPure Ext.refl rfl rfl rfl rfl (c := .agg (hcs X1)) (fun w hw => exec_loadAv (aG10.below hw.drew) _ _ rfl rfl _ 32 X1v32.out Tryd.underlying28 rfl (by kernel_rfl)) (by simp only [List.set_cons_succ, List.set_cons_zero]; rfl) ?_
                  refine relPure Ext.refl rfl rfl rfl rfl (c := .agg (hcs X2)) (fun w hw => exec_loadAv (aG210.below hw.drew) _ _ rfl rfl _ 32 X2v32.out Tryd.underlying28 rfl (by kernel_rfl)) (by simp only [List.set_cons_succ, List.set_cons_zero]; rfl) ?_
                  refine relBin Ext.refl rfl rfl rfl rfl _ _ _ _ _ rfl (by conv => lhs; whnf) (by conv => lhs; whnf) (c := .bool false) (fun w => EX.out _ _ w) (by simp only [List.set_cons_succ, List.set_cons_zero]; rfl) ?_
                  refine relPick Ext.refl rfl rfl rfl rfl _ _ _ rfl rfl (by conv => lhs; whnf) (by simp only [List.set_cons_succ, List.set_cons_zero]; rfl) ?_
                  refine relMove Ext.refl rfl rfl rfl rfl _ (.inl rfl) (by conv => lhs; whnf) (by simp only [List.set_cons_succ, List.set_cons_zero]; rfl) ?_
                  refine relSkip rfl rfl rfl rfl (by simp only [List.set_cons_succ, List.set_cons_zero]; rfl) ?_
                  refine relSkip rfl rfl rfl rfl (by simp only [List.set_cons_succ, List.set_cons_zero]; rfl) ?_
                  refine relSkip rfl rfl rfl rfl (by simp only [List.set_cons_succ, List.set_cons_zero]; rfl) ?_
                  refine relSkip rfl rfl rfl rfl (by simp only [List.set_cons_succ, List.set_cons_zero]; rfl) ?_
                  refine relSkip rfl rfl rfl rfl (by simp only [List.set_cons_succ, List.set_cons_zero]; rfl) ?_
                  refine relPick Ext.refl rfl rfl rfl rfl _ _ _ rfl rfl (by conv => lhs; whnf) (by simp only [List.set_cons_succ, List.set_cons_zero]; rfl) ?_
                  refine relMove Ext.refl rfl rfl rfl rfl _ (.inl rfl) (by conv => lhs; whnf) (by simp only [List.set_cons_succ, List.set_cons_zero]; rfl) ?_
                  refine relSkip rfl rfl rfl rfl (by simp only [List.set_cons_succ, List.set_cons_zero]; rfl) ?_
                  refine relSkip rfl rfl rfl rfl (by simp only [List.set_cons_succ, List.set_cons_zero]; rfl) ?_
                  refine relPick Ext.refl rfl rfl rfl rfl _ _ _ rfl rfl (by conv => lhs; whnf) (by simp only [List.set_cons_succ, List.set_cons_zero]; rfl) ?_
                  refine relMove Ext.refl rfl rfl rfl rfl _ (.inl rfl) (by conv => lhs; whnf) (by simp only [List.set_cons_succ, List.set_cons_zero]; rfl) ?_
                  refine relSkip rfl rfl rfl rfl (by simp only [List.set_cons_succ, List.set_cons_zero]; rfl) ?_
                  refine relSkip rfl rfl rfl rfl (by simp only [List.set_cons_succ, List.set_cons_zero]; rfl) ?_
                  refine relPick Ext.refl rfl rfl rfl rfl _ _ _ rfl rfl (by conv => lhs; whnf) (by simp only [List.set_cons_succ, List.set_cons_zero]; rfl) ?_
                  refine relMove Ext.refl rfl rfl rfl rfl _ (.inl rfl) (by conv => lhs; whnf) (by simp only [List.set_cons_succ, List.set_cons_zero]; rfl) ?_
                  refine relSkip rfl rfl rfl rfl (by simp only [List.set_cons_succ, List.set_cons_zero]; rfl) ?_
                  refine relSkip rfl rfl rfl rfl (by simp only [List.set_cons_succ, List.set_cons_zero]; rfl) ?_
                  refine relSkip rfl rfl rfl rfl (by simp only [List.set_cons_succ, List.set_cons_zero]; rfl) ?_
                  refine relSkip rfl rfl rfl rfl (by simp only [List.set_cons_succ, List.set_cons_zero]; rfl) ?_
                  refine relSkip rfl rfl rfl rfl (by simp only [List.set_cons_succ, List.set_cons_zero]; rfl) ?_
                  refine relSkip rfl rfl rfl rfl (by simp only [List.set_cons_succ, List.set_cons_zero]; rfl) ?_
                  refine relSkip rfl rfl rfl rfl (by simp only [List.set_cons_succ, List.set_cons_zero]; rfl) ?_
                  refine relSkip rfl rfl rfl rfl (by simp only [List.set_cons_succ, List.set_cons_zero]; rfl) ?_
                  refine relSkip rfl rfl rfl rfl (by simp only [List.set_cons_succ, List.set_cons_zero]; rfl) ?_
                  refine relSkip rfl rfl rfl rfl (by simp only [List.set_cons_succ, List.set_cons_zero]; rfl) ?_
                  refine relSkip rfl rfl rfl rfl (by simp only [List.set_cons_succ, List.set_cons_zero]; rfl) ?_
                  refine relPick Ext.refl rfl rfl rfl rfl _ _ _ rfl rfl (by conv => lhs; whnf) (by simp only [List.set_cons_succ, List.set_cons_zero]; rfl) ?_
                  refine relMove Ext.refl rfl rfl rfl rfl _ (.inr rfl) (by conv => lhs; whnf) (by simp only [List.set_cons_succ, List.set_cons_zero]; rfl) ?_
                  refine relEnd fun w11 hw11 => fill_end ?_
                  have bw11 := bw10.trans (hw11.drew.mono bw10.size)
                  have HV3 := HV2.out w11 (ur.below hw11.drew) (vr.below hw11.drew) (hT.below bw11)
                  replace HV3 := Lib.hid HV3
                  go_wp2_with (go_at_call 23; refine (HV3.out).mono ?_; rintro e w12 ⟨rfl, b12⟩)
                  go_ret
                  exact ⟨rfl, bw11.trans (b12.mono bw11.size)⟩
                | true =>
                  by_cases hts : tot1 = tot2
                  · have g3 : ((tot1 : Int) == (tot2 : Int)) = true := by simp; omega
                    clear hts
                    go_upto_region 19 with fail
                    refine wp_region_rel [] Ext (by kernel_rfl) (by kernel_rfl) (by kernel_rfl) Ext.refl Ext.trans (by intro p hp; cases hp) ?_
                    refine relMove Ext.refl rfl rfl rfl rfl _ (.inl rfl) (by conv => lhs; whnf) (by simp only [List.set_cons_succ, List.set_cons_zero]; rfl) ?_
                    refine relPure Ext.refl rfl rfl rfl rfl (c := .bool true) (fun w _ => by go_simp; first | done | rfl) (by simp only [List.set_cons_succ, List.set_cons_zero]; rfl) ?_
                    refine relMove Ext.refl rfl rfl rfl rfl _ (.inl rfl) (by conv => lhs; whnf) (by simp only [List.set_cons_succ, List.set_cons_zero]; rfl) ?_
                    refine relMove Ext.refl rfl rfl rfl rfl _ (.inl rfl) (by conv => lhs; whnf) (by simp only [List.set_cons_succ, List.set_cons_zero]; rfl) ?_
                    refine relPure Ext.refl rfl rfl rfl rfl (c := .bool true) (fun w _ => by go_simp; first | done | rfl) (by simp only [List.set_cons_succ, List.set_cons_zero]; rfl) ?_
                    refine relPick Ext.refl rfl rfl rfl rfl _ _ _ rfl rfl (by conv => lhs; whnf) (by simp only [List.set_cons_succ, List.set_cons_zero]; rfl) ?_
                    refine relMove Ext.refl rfl rfl rfl rfl _ (.inl rfl) (by conv => lhs; whnf) (by simp only [List.set_cons_succ, List.set_cons_zero]; rfl) ?_
                    refine relPure Ext.refl rfl rfl rfl rfl (c := .agg (hcs X1)) (fun w hw => exec_loadAv (aG10.below hw.drew) _ _ rfl rfl _ 32 X1v32.out Tryd.underlying28 rfl (by kernel_rfl)) (by simp only [List.set_cons_succ, List.set_cons_zero]; rfl) ?_
                    refine relPure Ext.refl rfl rfl rfl rfl (c := .agg (hcs X2)) (fun w hw => exec_loadAv (aG210.below hw.drew) _ _ rfl rfl _ 32 X2v32.out Tryd.underlying28 rfl (by kernel_rfl)) (by simp only [List.set_cons_succ, List.set_cons_zero]; rfl) ?_
                    refine relBin Ext.refl rfl rfl rfl rfl _ _ _ _ _ rfl (by conv => lhs; whnf) (by conv => lhs; whnf) (c := .bool true) (fun w => EX.out _ _ w) (by simp only [List.set_cons_succ, List.set_cons_zero]; rfl) ?_
                    refine relPick Ext.refl rfl rfl rfl rfl _ _ _ rfl rfl (by conv => lhs; whnf) (by simp only [List.set_cons_succ, List.set_cons_zero]; rfl) ?_
                    refine relMove Ext.refl rfl rfl rfl rfl _ (.inl rfl) (by conv => lhs; whnf) (by simp only [List.set_cons_succ, List.set_cons_zero]; rfl) ?_
                    refine relPure Ext.refl rfl rfl rfl rfl (fun w _ => by go_simp; first | done | rfl) (by simp only [List.set_cons_succ, List.set_cons_zero]; rfl) ?_
                    refine relPure Ext.refl rfl rfl rfl rfl (c := .int .u32 (tot1 : Int)) (fun w hw => by have := (aX10.below hw.drew).cell 0 _ rfl; go_simp; first | done | rfl) (by simp only [List.set_cons_succ, List.set_cons_zero]; rfl) ?_
                    refine relPure Ext.refl rfl rfl rfl rfl (fun w _ => by go_simp; first | done | rfl) (by simp only [List.set_cons_succ, List.set_cons_zero]; rfl) ?_
                    refine relPure Ext.refl rfl rfl rfl rfl (c := .int .u32 (tot2 : Int)) (fun w hw => by have := (aZ10.below hw.drew).cell 0 _ rfl; go_simp; first | done | rfl) (by simp only [List.set_cons_succ, List.set_cons_zero]; rfl) ?_
                    refine relPure Ext.refl rfl rfl rfl rfl (c := .bool true) (fun w _ => by go_simp; first | done | rfl) (by simp only [List.set_cons_succ, List.set_cons_zero]; rfl) ?_
                    refine relPick Ext.refl rfl rfl rfl rfl _ _ _ rfl rfl (by conv => lhs; whnf) (by simp only [List.set_cons_succ, List.set_cons_zero]; rfl) ?_
                    refine relMove Ext.refl rfl rfl rfl rfl _ (.inl rfl) (by conv => lhs; whnf) (by simp only [List.set_cons_succ, List.set_cons_zero]; rfl) ?_
                    refine relMove Ext.refl rfl rfl rfl rfl _ (.inl rfl) (by conv => lhs; whnf) (by simp only [List.set_cons_succ, List.set_cons_zero]; rfl) ?_
                    refine relPure Ext.refl rfl rfl rfl rfl (c := .bool false) (fun w _ => by go_simp; first | done | rfl) (by simp only [List.set_cons_succ, List.set_cons_zero]; rfl) ?_
                    refine relPick Ext.refl rfl rfl rfl rfl _ _ _ rfl rfl (by conv => lhs; whnf) (by simp only [List.set_cons_succ, List.set_cons_zero]; rfl) ?_
                    refine relMove Ext.refl rfl rfl rfl rfl _ (.inl rfl) (by conv => lhs; whnf) (by simp only [List.set_cons_succ, List.set_cons_zero]; rfl) ?_
                    refine relSkip rfl rfl rfl rfl (by simp only [List.set_cons_succ, List.set_cons_zero]; rfl) ?_
                    refine relSkip rfl rfl rfl rfl (by simp only [List.set_cons_succ, List.set_cons_zero]; rfl) ?_
                    refine relPick Ext.refl rfl rfl rfl rfl _ _ _ rfl rfl (by conv => lhs; whnf) (by simp only [List.set_cons_succ, List.set_cons_zero]; rfl) ?_
                    refine relMove Ext.refl rfl rfl rfl rfl _ (.inl rfl) (by conv => lhs; whnf) (by simp only [List.set_cons_succ, List.set_cons_zero]; rfl) ?_
                    refine relSkip rfl rfl rfl rfl (by simp only [List.set_cons_succ, List.set_cons_zero]; rfl) ?_
                    refine relSkip rfl rfl rfl rfl (by simp only [List.set_cons_succ, List.set_cons_zero]; rfl) ?_
                    refine relSkip rfl rfl rfl rfl (by simp only [List.set_cons_succ, List.set_cons_zero]; rfl) ?_
                    refine relSkip rfl rfl rfl rfl (by simp only [List.set_cons_succ, List.set_cons_zero]; rfl) ?_
                    refine relSkip rfl rfl rfl rfl (by simp only [List.set_cons_succ, List.set_cons_zero]; rfl) ?_
                    refine relSkip rfl rfl rfl rfl (by simp only [List.set_cons_succ, List.set_cons_zero]; rfl) ?_
                    refine relSkip rfl rfl rfl rfl (by simp only [List.set_cons_succ, List.set_cons_zero]; rfl) ?_
                    refine relSkip rfl rfl rfl rfl (by simp only [List.set_cons_succ, List.set_cons_zero]; rfl) ?_
                    refine relSkip rfl rfl rfl rfl (by simp only [List.set_cons_succ, List.set_cons_zero]; rfl) ?_
                    refine relSkip rfl rfl rfl rfl (by simp only [List.set_cons_succ, List.set_cons_zero]; rfl) ?_
                    refine relSkip rfl rfl rfl rfl (by simp only [List.set_cons_succ, List.set_cons_zero]; rfl) ?_
                    refine relPick Ext.refl rfl rfl rfl rfl _ _ _ rfl rfl (by conv => lhs; whnf) (by simp only [List.set_cons_succ, List.set_cons_zero]; rfl) ?_
                    refine relMove Ext.refl rfl rfl rfl rfl _ (.inr rfl) (by conv => lhs; whnf) (by simp only [List.set_cons_succ, List.set_cons_zero]; rfl) ?_
                    refine relEnd fun w11 hw11 => fill_end ?_
                    have bw11 := bw10.trans (hw11.drew.mono bw10.size)
                    have HV3 := HV2.out w11 (ur.below hw11.drew) (vr.below hw11.drew) (hT.below bw11)
                    replace HV3 := Lib.hid HV3
                    go_wp2_with (go_at_call 23; refine (HV3.out).mono ?_; rintro e w12 ⟨rfl, b12⟩)
                    go_ret
                    exact ⟨rfl, bw11.trans (b12.mono bw11.size)⟩
                  · have g3 : ((tot1 : Int) == (tot2 : Int)) = false := by simp; omega
                    clear hts
                    go_upto_region 19 with fail
                    refine wp_region_rel [] Ext (by kernel_rfl) (by kernel_rfl) (by kernel_rfl) Ext.refl Ext.trans (by intro p hp; cases hp) ?_
                    refine relMove Ext.refl rfl rfl rfl rfl _ (.inl rfl) (by conv => lhs; whnf) (by simp only [List.set_cons_succ, List.set_cons_zero]; rfl) ?_
                    refine relPure Ext.refl rfl rfl rfl rfl (c := .bool true) (fun w _ => by go_simp; first | done | rfl) (by simp only [List.set_cons_succ, List.set_cons_zero]; rfl) ?_
                    refine relMove Ext.refl rfl rfl rfl rfl _ (.inl rfl) (by conv => lhs; whnf) (by simp only [List.set_cons_succ, List.set_cons_zero]; rfl) ?_
                    refine relMove Ext.refl rfl rfl rfl rfl _ (.inl rfl) (by conv => lhs; whnf) (by simp only [List.set_cons_succ, List.set_cons_zero]; rfl) ?_
                    refine relPure Ext.refl rfl rfl rfl rfl (c := .bool true) (fun w _ => by go_simp; first | done | rfl) (by simp only [List.set_cons_succ, List.set_cons_zero]; rfl) ?_
                    refine relPick Ext.refl rfl rfl rfl rfl _ _ _ rfl rfl (by conv => lhs; whnf) (by simp only [List.set_cons_succ, List.set_cons_zero]; rfl) ?_
                    refine relMove Ext.refl rfl rfl rfl rfl _ (.inl rfl) (by conv => lhs; whnf) (by simp only [List.set_cons_succ, List.set_cons_zero]; rfl) ?_
                    refine relPure Ext.refl rfl rfl rfl rfl (c := .agg (hcs X1)) (fun w hw => exec_loadAv (aG10.below hw.drew) _ _ rfl rfl _ 32 X1v32.out Tryd.underlying28 rfl (by kernel_rfl)) (by simp only [List.set_cons_succ, List.set_cons_zero]; rfl) ?_
                    refine relPure Ext.refl rfl rfl rfl rfl (c := .agg (hcs X2)) (fun w hw => exec_loadAv (aG210.below hw.drew) _ _ rfl rfl _ 32 X2v32.out Tryd.underlying28 rfl (by kernel_rfl)) (by simp only [List.set_cons_succ, List.set_cons_zero]; rfl) ?_
                    refine relBin Ext.refl rfl rfl rfl rfl _ _ _ _ _ rfl (by conv => lhs; whnf) (by conv => lhs; whnf) (c := .bool true) (fun w => EX.out _ _ w) (by simp only [List.set_cons_succ, List.set_cons_zero]; rfl) ?_
                    refine relPick Ext.refl rfl rfl rfl rfl _ _ _ rfl rfl (by conv => lhs; whnf) (by simp only [List.set_cons_succ, List.set_cons_zero]; rfl) ?_
                    refine relMove Ext.refl rfl rfl rfl rfl _ (.inl rfl) (by conv => lhs; whnf) (by simp only [List.set_cons_succ, List.set_cons_zero]; rfl) ?_
                    refine relPure Ext.refl rfl rfl rfl rfl (fun w _ => by go_simp; first | done | rfl) (by simp only [List.set_cons_succ, List.set_cons_zero]; rfl) ?_
                    refine relPure Ext.refl rfl rfl rfl rfl (c := .int .u32 (tot1 : Int)) (fun w hw => by have := (aX10.below hw.drew).cell 0 _ rfl; go_simp; first | done | rfl) (by simp only [List.set_cons_succ, List.set_cons_zero]; rfl) ?_
                    refine relPure Ext.refl rfl rfl rfl rfl (fun w _ => by go_simp; first | done | rfl) (by simp only [List.set_cons_succ, List.set_cons_zero]; rfl) ?_
                    refine relPure Ext.refl rfl rfl rfl rfl (c := .int .u32 (tot2 : Int)) (fun w hw => by have := (aZ10.below hw.drew).cell 0 _ rfl; go_simp; first | done | rfl) (by simp only [List.set_cons_succ, List.set_cons_zero]; rfl) ?_
                    refine relPure Ext.refl rfl rfl rfl rfl (c := .bool false) (fun w _ => by go_simp; first | done | rfl) (by simp only [List.set_cons_succ, List.set_cons_zero]; rfl) ?_
                    refine relPick Ext.refl rfl rfl rfl rfl _ _ _ rfl rfl (by conv => lhs; whnf) (by simp only [List.set_cons_succ, List.set_cons_zero]; rfl) ?_
                    refine relMove Ext.refl rfl rfl rfl rfl _ (.inl rfl) (by conv => lhs; whnf) (by simp only [List.set_cons_succ, List.set_cons_zero]; rfl) ?_
                    refine relSkip rfl rfl rfl rfl (by simp only [List.set_cons_succ, List.set_cons_zero]; rfl) ?_
                    refine relSkip rfl rfl rfl rfl (by simp only [List.set_cons_succ, List.set_cons_zero]; rfl) ?_
                    refine relPick Ext.refl rfl rfl rfl rfl _ _ _ rfl rfl (by conv => lhs; whnf) (by simp only [List.set_cons_succ, List.set_cons_zero]; rfl) ?_
                    refine relMove Ext.refl rfl rfl rfl rfl _ (.inl rfl) (by conv => lhs; whnf) (by simp only [List.set_cons_succ, List.set_cons_zero]; rfl) ?_
                    refine relSkip rfl rfl rfl rfl (by simp only [List.set_cons_succ, List.set_cons_zero]; rfl) ?_
                    refine relSkip rfl rfl rfl rfl (by simp only [List.set_cons_succ, List.set_cons_zero]; rfl) ?_
                    refine relPick Ext.refl rfl rfl rfl rfl _ _ _ rfl rfl (by conv => lhs; whnf) (by simp only [List.set_cons_succ, List.set_cons_zero]; rfl) ?_
                    refine relMove Ext.refl rfl rfl rfl rfl _ (.inl rfl) (by conv => lhs; whnf) (by simp only [List.set_cons_succ, List.set_cons_zero]; rfl) ?_
                    refine relSkip rfl rfl rfl rfl (by simp only [List.set_cons_succ, List.set_cons_zero]; rfl) ?_
                    refine relSkip rfl rfl rfl rfl (by simp only [List.set_cons_succ, List.set_cons_zero]; rfl) ?_
                    refine relSkip rfl rfl rfl rfl (by simp only [List.set_cons_succ, List.set_cons_zero]; rfl) ?_
                    refine relSkip rfl rfl rfl rfl (by simp only [List.set_cons_succ, List.set_cons_zero]; rfl) ?_
                    refine relSkip rfl rfl rfl rfl (by simp only [List.set_cons_succ, List.set_cons_zero]; rfl) ?_
                    refine relSkip rfl rfl rfl rfl (by simp only [List.set_cons_succ, List.set_cons_zero]; rfl) ?_
                    refine relSkip rfl rfl rfl rfl (by simp only [List.set_cons_succ, List.set_cons_zero]; rfl) ?_
                    refine relSkip rfl rfl rfl rfl (by simp only [List.set_cons_succ, List.set_cons_zero]; rfl) ?_
                    refine relSkip rfl rfl rfl rfl (by simp only [List.set_cons_succ, List.set_cons_zero]; rfl) ?_
                    refine relSkip rfl rfl rfl rfl (by simp only [List.set_cons_succ, List.set_cons_zero]; rfl) ?_
                    refine relSkip rfl rfl rfl rfl (by simp only [List.set_cons_succ, List.set_cons_zero]; rfl) ?_
                    refine relPick Ext.refl rfl rfl rfl rfl _ _ _ rfl rfl (by conv => lhs; whnf) (by simp only [List.set_cons_succ, List.set_cons_zero]; rfl) ?_
                    refine relMove Ext.refl rfl rfl rfl rfl _ (.inr rfl) (by conv => lhs; whnf) (by simp only [List.set_cons_succ, List.set_cons_zero]; rfl) ?_
                    refine relEnd fun w11 hw11 => fill_end ?_
                    have bw11 := bw10.trans (hw11.drew.mono bw10.size)
                    have HV3 := HV2.out w11 (ur.below hw11.drew) (vr.below hw11.drew) (hT.below bw11)
                    replace HV3 := Lib.hid HV3
                    go_wp2_with (go_at_call 23; refine (HV3.out).mono ?_; rintro e w12 ⟨rfl, b12⟩)
                    go_ret
                    exact ⟨rfl, bw11.trans (b12.mono bw11.size)⟩
              · subst i0
                have i1a : decide ((0 : Int) ≤ (i1 : Int)) = true := by simp
                have i1b : (i1 : Int) < (j : Int) := by omega
                have i1c : (0 : Int) ≤ (i1 : Int) := by omega
                rcases jx2.out with ⟨k0, q2⟩ | ⟨i2, p2, z2, k0, hi2, hp2, z232, q2⟩
                · have hOf : O = false := hcn.out (.inr q2)
                  subst hOf
                  subst k0
                  clear jx1 jx2 q1 q2 hE1' hp1
                  cases c3 with
                  | false =>
                    skip
                    go_upto_region 19 with fail
                    refine wp_region_rel [] Ext (by kernel_rfl) (by kernel_rfl) (by kernel_rfl) Ext.refl Ext.trans (by intro p hp; cases hp) ?_
                    refine relMove Ext.refl rfl rfl rfl rfl _ (.inl rfl) (by conv => lhs; whnf) (by simp only [List.set_cons_succ, List.set_cons_zero]; rfl) ?_
                    refine relPure Ext.refl rfl rfl rfl rfl (c := .bool true) (fun w _ => by go_simp; first | done | rfl) (by simp only [List.set_cons_succ, List.set_cons_zero]; rfl) ?_
                    refine relMove Ext.refl rfl rfl rfl rfl _ (.inl rfl) (by conv => lhs; whnf) (by simp only [List.set_cons_succ, List.set_cons_zero]; rfl) ?_
                    refine relMove Ext.refl rfl rfl rfl rfl _ (.inl rfl) (by conv => lhs; whnf) (by simp only [List.set_cons_succ, List.set_cons_zero]; rfl) ?_
                    refine relPure Ext.refl rfl rfl rfl rfl (c := .bool true) (fun w _ => by go_simp; first | done | rfl) (by simp only [List.set_cons_succ, List.set_cons_zero]; rfl) ?_
                    refine relPick Ext.refl rfl rfl rfl rfl _ _ _ rfl rfl (by conv => lhs; whnf) (by simp only [List.set_cons_succ, List.set_cons_zero]; rfl) ?_
                    refine relMove Ext.refl rfl rfl rfl rfl _ (.inl rfl) (by conv => lhs; whnf) (by simp only [List.set_cons_succ, List.set_cons_zero]; rfl) ?_
                    refine relPure Ext.refl rfl rfl rfl rfl (c := .agg (hcs X1)) (fun w hw => exec_loadAv (aG10.below hw.drew) _ _ rfl rfl _ 32 X1v32.out Tryd.underlying28 rfl (by kernel_rfl)) (by simp only [List.set_cons_succ, List.set_cons_zero]; rfl) ?_
                    refine relPure Ext.refl rfl rfl rfl rfl (c := .agg (hcs X2)) (fun w hw => exec_loadAv (aG210.below hw.drew) _ _ rfl rfl _ 32 X2v32.out Tryd.underlying28 rfl (by kernel_rfl)) (by simp only [List.set_cons_succ, List.set_cons_zero]; rfl) ?_
                    refine relBin Ext.refl rfl rfl rfl rfl _ _ _ _ _ rfl (by conv => lhs; whnf) (by conv => lhs; whnf) (c := .bool false) (fun w => EX.out _ _ w) (by simp only [List.set_cons_succ, List.set_cons_zero]; rfl) ?_
                    refine relPick Ext.refl rfl rfl rfl rfl _ _ _ rfl rfl (by conv => lhs; whnf) (by simp only [List.set_cons_succ, List.set_cons_zero]; rfl) ?_
                    refine relMove Ext.refl rfl rfl rfl rfl _ (.inl rfl) (by conv => lhs; whnf) (by simp only [List.set_cons_succ, List.set_cons_zero]; rfl) ?_
                    refine relSkip rfl rfl rfl rfl (by simp only [List.set_cons_succ, List.set_cons_zero]; rfl) ?_
                    refine relSkip rfl rfl rfl rfl (by simp only [List.set_cons_succ, List.set_cons_zero]; rfl) ?_
                    refine relSkip rfl rfl rfl rfl (by simp only [List.set_cons_succ, List.set_cons_zero]; rfl) ?_
                    refine relSkip rfl rfl rfl rfl (by simp only [List.set_cons_succ, List.set_cons_zero]; rfl) ?_
                    refine relSkip rfl rfl rfl rfl (by simp only [List.set_cons_succ, List.set_cons_zero]; rfl) ?_
                    refine relPick Ext.refl rfl rfl rfl rfl _ _ _ rfl rfl (by conv => lhs; whnf) (by simp only [List.set_cons_succ, List.set_cons_zero]; rfl) ?_
                    refine relMove Ext.refl rfl rfl rfl rfl _ (.inl rfl) (by conv => lhs; whnf) (by simp only [List.set_cons_succ, List.set_cons_zero]; rfl) ?_
                    refine relSkip rfl rfl rfl rfl (by simp only [List.set_cons_succ, List.set_cons_zero]; rfl) ?_
                    refine relSkip rfl rfl rfl rfl (by simp only [List.set_cons_succ, List.set_cons_zero]; rfl) ?_
                    refine relPick Ext.refl rfl rfl rfl rfl _ _ _ rfl rfl (by conv => lhs; whnf) (by simp only [List.set_cons_succ, List.set_cons_zero]; rfl) ?_
                    refine relMove Ext.refl rfl rfl rfl rfl _ (.inl rfl) (by conv => lhs; whnf) (by simp only [List.set_cons_succ, List.set_cons_zero]; rfl) ?_
                    refine relSkip rfl rfl rfl rfl (by simp only [List.set_cons_succ, List.set_cons_zero]; rfl) ?_
                    refine relSkip rfl rfl rfl rfl (by simp only [List.set_cons_succ, List.set_cons_zero]; rfl) ?_
                    refine relPick Ext.refl rfl rfl rfl rfl _ _ _ rfl rfl (by conv => lhs; whnf) (by simp only [List.set_cons_succ, List.set_cons_zero]; rfl) ?_
                    refine relMove Ext.refl rfl rfl rfl rfl _ (.inl rfl) (by conv => lhs; whnf) (by simp only [List.set_cons_succ, List.set_cons_zero]; rfl) ?_
                    refine relSkip rfl rfl rfl rfl (by simp only [List.set_cons_succ, List.set_cons_zero]; rfl) ?_
                    refine relSkip rfl rfl rfl rfl (by simp only [List.set_cons_succ, List.set_cons_zero]; rfl) ?_
                    refine relSkip rfl rfl rfl rfl (by simp only [List.set_cons_succ, List.set_cons_zero]; rfl) ?_
                    refine relSkip rfl rfl rfl rfl (by simp only [List.set_cons_succ, List.set_cons_zero]; rfl) ?_
                    refine relSkip rfl rfl rfl rfl (by simp only [List.set_cons_succ, List.set_cons_zero]; rfl) ?_
                    refine relSkip rfl rfl rfl rfl (by simp only [List.set_cons_succ, List.set_cons_zero]; rfl) ?_
                    refine relSkip rfl rfl rfl rfl (by simp only [List.set_cons_succ, List.set_cons_zero]; rfl) ?_
                    refine relSkip rfl rfl rfl rfl (by simp only [List.set_cons_succ, List.set_cons_zero]; rfl) ?_
                    refine relSkip rfl rfl rfl rfl (by simp only [List.set_cons_succ, List.set_cons_zero]; rfl) ?_
                    refine relSkip rfl rfl rfl rfl (by simp only [List.set_cons_succ, List.set_cons_zero]; rfl) ?_
                    refine relSkip rfl rfl rfl rfl (by simp only [List.set_cons_succ, List.set_cons_zero]; rfl) ?_
                    refine relPick Ext.refl rfl rfl rfl rfl _ _ _ rfl rfl (by conv => lhs; whnf) (by simp only [List.set_cons_succ, List.set_cons_zero]; rfl) ?_
                    refine relMove Ext.refl rfl rfl rfl rfl _ (.inr rfl) (by conv => lhs; whnf) (by simp only [List.set_cons_succ, List.set_cons_zero]; rfl) ?_
                    refine relEnd fun w11 hw11 => fill_end ?_
                    have bw11 := bw10.trans (hw11.drew.mono bw10.size)
                    have HV3 := HV2.out w11 (ur.below hw11.drew) (vr.below hw11.drew) (hT.below bw11)
                    replace HV3 := Lib.hid HV3
                    go_wp2_with (go_at_call 23; refine (HV3.out).mono ?_; rintro e w12 ⟨rfl, b12⟩)
                    go_ret
                    exact ⟨rfl, bw11.trans (b12.mono bw11.size)⟩
                  | true =>
                    by_cases hts : tot1 = tot2
                    · have g3 : ((tot1 : Int) == (tot2 : Int)) = true := by simp; omega
                      clear hts
                      go_upto_region 19 with fail
                      refine wp_region_rel [] Ext (by kernel_rfl) (by kernel_rfl) (by kernel_rfl) Ext.refl Ext.trans (by intro p hp; cases hp) ?_
                      refine relMove Ext.refl rfl rfl rfl rfl _ (.inl rfl) (by conv => lhs; whnf) (by simp only [List.set_cons_succ, List.set_cons_zero]; rfl) ?_
                      refine relPure Ext.refl rfl rfl rfl rfl (c := .bool true) (fun w _ => by go_simp; first | done | rfl) (by simp only [List.set_cons_succ, List.set_cons_zero]; rfl) ?_
                      refine relMove Ext.refl rfl rfl rfl rfl _ (.inl rfl) (by conv => lhs; whnf) (by simp only [List.set_cons_succ, List.set_cons_zero]; rfl) ?_
                      refine relMove Ext.refl rfl rfl rfl rfl _ (.inl rfl) (by conv => lhs; whnf) (by simp only [List.set_cons_succ, List.set_cons_zero]; rfl) ?_
                      refine relPure Ext.refl rfl rfl rfl rfl (c := .bool true) (fun w _ => by go_simp; first | done | rfl) (by simp only [List.set_cons_succ, List.set_cons_zero]; rfl) ?_
                      refine relPick Ext.refl rfl rfl rfl rfl _ _ _ rfl rfl (by conv => lhs; whnf) (by simp only [List.set_cons_succ, List.set_cons_zero]; rfl) ?_
                      refine relMove Ext.refl rfl rfl rfl rfl _ (.inl rfl) (by conv => lhs; whnf) (by simp only [List.set_cons_succ, List.set_cons_zero]; rfl) ?_
                      refine relPure Ext.refl rfl rfl rfl rfl (c := .agg (hcs X1)) (fun w hw => exec_loadAv (aG10.below hw.drew) _ _ rfl rfl _ 32 X1v32.out Tryd.underlying28 rfl (by kernel_rfl)) (by simp only [List.set_cons_succ, List.set_cons_zero]; rfl) ?_
                      refine relPure Ext.refl rfl rfl rfl rfl (c := .agg (hcs X2)) (fun w hw => exec_loadAv (aG210.below hw.drew) _ _ rfl rfl _ 32 X2v32.out Tryd.underlying28 rfl (by kernel_rfl)) (by simp only [List.set_cons_succ, List.set_cons_zero]; rfl) ?_
                      refine relBin Ext.refl rfl rfl rfl rfl _ _ _ _ _ rfl (by conv => lhs; whnf) (by conv => lhs; whnf) (c := .bool true) (fun w => EX.out _ _ w) (by simp only [List.set_cons_succ, List.set_cons_zero]; rfl) ?_
                      refine relPick Ext.refl rfl rfl rfl rfl _ _ _ rfl rfl (by conv => lhs; whnf) (by simp only [List.set_cons_succ, List.set_cons_zero]; rfl) ?_
                      refine relMove Ext.refl rfl rfl rfl rfl _ (.inl rfl) (by conv => lhs; whnf) (by simp only [List.set_cons_succ, List.set_cons_zero]; rfl) ?_
                      refine relPure Ext.refl rfl rfl rfl rfl (fun w _ => by go_simp; first | done | rfl) (by simp only [List.set_cons_succ, List.set_cons_zero]; rfl) ?_
                      refine relPure Ext.refl rfl rfl rfl rfl (c := .int .u32 (tot1 : Int)) (fun w hw => by have := (aX10.below hw.drew).cell 0 _ rfl; go_simp; first | done | rfl) (by simp only [List.set_cons_succ, List.set_cons_zero]; rfl) ?_
                      refine relPure Ext.refl rfl rfl rfl rfl (fun w _ => by go_simp; first | done | rfl) (by simp only [List.set_cons_succ, List.set_cons_zero]; rfl) ?_
                      refine relPure Ext.refl rfl rfl rfl rfl (c := .int .u32 (tot2 : Int)) (fun w hw => by have := (aZ10.below hw.drew).cell 0 _ rfl; go_simp; first | done | rfl) (by simp only [List.set_cons_succ, List.set_cons_zero]; rfl) ?_
                      refine relPure Ext.refl rfl rfl rfl rfl (c := .bool true) (fun w _ => by go_simp; first | done | rfl) (by simp only [List.set_cons_succ, List.set_cons_zero]; rfl) ?_
                      refine relPick Ext.refl rfl rfl rfl rfl _ _ _ rfl rfl (by conv => lhs; whnf) (by simp only [List.set_cons_succ, List.set_cons_zero]; rfl) ?_
                      refine relMove Ext.refl rfl rfl rfl rfl _ (.inl rfl) (by conv => lhs; whnf) (by simp only [List.set_cons_succ, List.set_cons_zero]; rfl) ?_
                      refine relMove Ext.refl rfl rfl rfl rfl _ (.inl rfl) (by conv => lhs; whnf) (by simp only [List.set_cons_succ, List.set_cons_zero]; rfl) ?_
                      refine relPure Ext.refl rfl rfl rfl rfl (c := .bool true) (fun w _ => by go_simp; first | done | rfl) (by simp only [List.set_cons_succ, List.set_cons_zero]; rfl) ?_
                      refine relPick Ext.refl rfl rfl rfl rfl _ _ _ rfl rfl (by conv => lhs; whnf) (by simp only [List.set_cons_succ, List.set_cons_zero]; rfl) ?_
                      refine relMove Ext.refl rfl rfl rfl rfl _ (.inl rfl) (by conv => lhs; whnf) (by simp only [List.set_cons_succ, List.set_cons_zero]; rfl) ?_
                      refine relMove Ext.refl rfl rfl rfl rfl _ (.inl rfl) (by conv => lhs; whnf) (by simp only [List.set_cons_succ, List.set_cons_zero]; rfl) ?_
                      refine relPure Ext.refl rfl rfl rfl rfl (c := .bool false) (fun w _ => by go_simp; first | done | rfl) (by simp only [List.set_cons_succ, List.set_cons_zero]; rfl) ?_
                      refine relPick Ext.refl rfl rfl rfl rfl _ _ _ rfl rfl (by conv => lhs; whnf) (by simp only [List.set_cons_succ, List.set_cons_zero]; rfl) ?_
                      refine relMove Ext.refl rfl rfl rfl rfl _ (.inl rfl) (by conv => lhs; whnf) (by simp only [List.set_cons_succ, List.set_cons_zero]; rfl) ?_
                      refine relSkip rfl rfl rfl rfl (by simp only [List.set_cons_succ, List.set_cons_zero]; rfl) ?_
                      refine relSkip rfl rfl rfl rfl (by simp only [List.set_cons_succ, List.set_cons_zero]; rfl) ?_
                      refine relSkip rfl rfl rfl rfl (by simp only [List.set_cons_succ, List.set_cons_zero]; rfl) ?_
                      refine relSkip rfl rfl rfl rfl (by simp only [List.set_cons_succ, List.set_cons_zero]; rfl) ?_
                      refine relSkip rfl rfl rfl rfl (by simp only [List.set_cons_succ, List.set_cons_zero]; rfl) ?_
                      refine relSkip rfl rfl rfl rfl (by simp only [List.set_cons_succ, List.set_cons_zero]; rfl) ?_
                      refine relSkip rfl rfl rfl rfl (by simp only [List.set_cons_succ, List.set_cons_zero]; rfl) ?_
                      refine relSkip rfl rfl rfl rfl (by simp only [List.set_cons_succ, List.set_cons_zero]; rfl) ?_
                      refine relSkip rfl rfl rfl rfl (by simp only [List.set_cons_succ, List.set_cons_zero]; rfl) ?_
                      refine relSkip rfl rfl rfl rfl (by simp only [List.set_cons_succ, List.set_cons_zero]; rfl) ?_
                      refine relSkip rfl rfl rfl rfl (by simp only [List.set_cons_succ, List.set_cons_zero]; rfl) ?_
                      refine relPick Ext.refl rfl rfl rfl rfl _ _ _ rfl rfl (by conv => lhs; whnf) (by simp only [List.set_cons_succ, List.set_cons_zero]; rfl) ?_
                      refine relMove Ext.refl rfl rfl rfl rfl _ (.inr rfl) (by conv => lhs; whnf) (by simp only [List.set_cons_succ, List.set_cons_zero]; rfl) ?_
                      refine relEnd fun w11 hw11 => fill_end ?_
                      have bw11 := bw10.trans (hw11.drew.mono bw10.size)
                      have HV3 := HV2.out w11 (ur.below hw11.drew) (vr.below hw11.drew) (hT.below bw11)
                      replace HV3 := Lib.hid HV3
                      go_wp2_with (go_at_call 23; refine (HV3.out).mono ?_; rintro e w12 ⟨rfl, b12⟩)
                      go_ret
                      exact ⟨rfl, bw11.trans (b12.mono bw11.size)⟩
                    · have g3 : ((tot1 : Int) == (tot2 : Int)) = false := by simp; omega
                      clear hts
                      go_upto_region 19 with fail
                      refine wp_region_rel [] Ext (by kernel_rfl) (by kernel_rfl) (by kernel_rfl) Ext.refl Ext.trans (by intro p hp; cases hp) ?_
                      refine relMove Ext.refl rfl rfl rfl rfl _ (.inl rfl) (by conv => lhs; whnf) (by simp only [List.set_cons_succ, List.set_cons_zero]; rfl) ?_
                      refine relPure Ext.refl rfl rfl rfl rfl (c := .bool true) (fun w _ => by go_simp; first | done | rfl) (by simp only [List.set_cons_succ, List.set_cons_zero]; rfl) ?_
                      refine relMove Ext.refl rfl rfl rfl rfl _ (.inl rfl) (by conv => lhs; whnf) (by simp only [List.set_cons_succ, List.set_cons_zero]; rfl) ?_
                      refine relMove Ext.refl rfl rfl rfl rfl _ (.inl rfl) (by conv => lhs; whnf) (by simp only [List.set_cons_succ, List.set_cons_zero]; rfl) ?_
                      refine relPure Ext.refl rfl rfl rfl rfl (c := .bool true) (fun w _ => by go_simp; first | done | rfl) (by simp only [List.set_cons_succ, List.set_cons_zero]; rfl) ?_
                      refine relPick Ext.refl rfl rfl rfl rfl _ _ _ rfl rfl (by conv => lhs; whnf) (by simp only [List.set_cons_succ, List.set_cons_zero]; rfl) ?_
                      refine relMove Ext.refl rfl rfl rfl rfl _ (.inl rfl) (by conv => lhs; whnf) (by simp only [List.set_cons_succ, List.set_cons_zero]; rfl) ?_
                      refine relPure Ext.refl rfl rfl rfl rfl (c := .agg (hcs X1)) (fun w hw => exec_loadAv (aG10.below hw.drew) _ _ rfl rfl _ 32 X1v32.out Tryd.underlying28 rfl (by kernel_rfl)) (by simp only [List.set_cons_succ, List.set_cons_zero]; rfl) ?_
                      refine relPure Ext.refl rfl rfl rfl rfl (c := .agg (hcs X2)) (fun w hw => exec_loadAv (aG210.below hw.drew) _ _ rfl rfl _ 32 X2v32.out Tryd.underlying28 rfl (by kernel_rfl)) (by simp only [List.set_cons_succ, List.set_cons_zero]; rfl) ?_
                      refine relBin Ext.refl rfl rfl rfl rfl _ _ _ _ _ rfl (by conv => lhs; whnf) (by conv => lhs; whnf) (c := .bool true) (fun w => EX.out _ _ w) (by simp only [List.set_cons_succ, List.set_cons_zero]; rfl) ?_
                      refine relPick Ext.refl rfl rfl rfl rfl _ _ _ rfl rfl (by conv => lhs; whnf) (by simp only [List.set_cons_succ, List.set_cons_zero]; rfl) ?_
                      refine relMove Ext.refl rfl rfl rfl rfl _ (.inl rfl) (by conv => lhs; whnf) (by simp only [List.set_cons_succ, List.set_cons_zero]; rfl) ?_
                      refine relPure Ext.refl rfl rfl rfl rfl (fun w _ => by go_simp; first | done | rfl) (by simp only [List.set_cons_succ, List.set_cons_zero]; rfl) ?_
                      refine relPure Ext.refl rfl rfl rfl rfl (c := .int .u32 (tot1 : Int)) (fun w hw => by have := (aX10.below hw.drew).cell 0 _ rfl; go_simp; first | done | rfl) (by simp only [List.set_cons_succ, List.set_cons_zero]; rfl) ?_
                      refine relPure Ext.refl rfl rfl rfl rfl (fun w _ => by go_simp; first | done | rfl) (by simp only [List.set_cons_succ, List.set_cons_zero]; rfl) ?_
                      refine relPure Ext.refl rfl rfl rfl rfl (c := .int .u32 (tot2 : Int)) (fun w hw => by have := (aZ10.below hw.drew).cell 0 _ rfl; go_simp; first | done | rfl) (by simp only [List.set_cons_succ, List.set_cons_zero]; rfl) ?_
                      refine relPure Ext.refl rfl rfl rfl rfl (c := .bool false) (fun w _ => by go_simp; first | done | rfl) (by simp only [List.set_cons_succ, List.set_cons_zero]; rfl) ?_
                      refine relPick Ext.refl rfl rfl rfl rfl _ _ _ rfl rfl (by conv => lhs; whnf) (by simp only [List.set_cons_succ, List.set_cons_zero]; rfl) ?_
                      refine relMove Ext.refl rfl rfl rfl rfl _ (.inl rfl) (by conv => lhs; whnf) (by simp only [List.set_cons_succ, List.set_cons_zero]; rfl) ?_
                      refine relSkip rfl rfl rfl rfl (by simp only [List.set_cons_succ, List.set_cons_zero]; rfl) ?_
                      refine relSkip rfl rfl rfl rfl (by simp only [List.set_cons_succ, List.set_cons_zero]; rfl) ?_
                      refine relPick Ext.refl rfl rfl rfl rfl _ _ _ rfl rfl (by conv => lhs; whnf) (by simp only [List.set_cons_succ, List.set_cons_zero]; rfl) ?_
                      refine relMove Ext.refl rfl rfl rfl rfl _ (.inl rfl) (by conv => lhs; whnf) (by simp only [List.set_cons_succ, List.set_cons_zero]; rfl) ?_
                      refine relSkip rfl rfl rfl rfl (by simp only [List.set_cons_succ, List.set_cons_zero]; rfl) ?_
                      refine relSkip rfl rfl rfl rfl (by simp only [List.set_cons_succ, List.set_cons_zero]; rfl) ?_
                      refine relPick Ext.refl rfl rfl rfl rfl _ _ _ rfl rfl (by conv => lhs; whnf) (by simp only [List.set_cons_succ, List.set_cons_zero]; rfl) ?_
                      refine relMove Ext.refl rfl rfl rfl rfl _ (.inl rfl) (by conv => lhs; whnf) (by simp only [List.set_cons_succ, List.set_cons_zero]; rfl) ?_
                      refine relSkip rfl rfl rfl rfl (by simp only [List.set_cons_succ, List.set_cons_zero]; rfl) ?_
                      refine relSkip rfl rfl rfl rfl (by simp only [List.set_cons_succ, List.set_cons_zero]; rfl) ?_
                      refine relSkip rfl rfl rfl rfl (by simp only [List.set_cons_succ, List.set_cons_zero]; rfl) ?_
                      refine relSkip rfl rfl rfl rfl (by simp only [List.set_cons_succ, List.set_cons_zero]; rfl) ?_
                      refine relSkip rfl rfl rfl rfl (by simp only [List.set_cons_succ, List.set_cons_zero]; rfl) ?_
                      refine relSkip rfl rfl rfl rfl (by simp only [List.set_cons_succ, List.set_cons_zero]; rfl) ?_
                      refine relSkip rfl rfl rfl rfl (by simp only [List.set_cons_succ, List.set_cons_zero]; rfl) ?_
                      refine relSkip rfl rfl rfl rfl (by simp only [List.set_cons_succ, List.set_cons_zero]; rfl) ?_
                      refine relSkip rfl rfl rfl rfl (by simp only [List.set_cons_succ, List.set_cons_zero]; rfl) ?_
                      refine relSkip rfl rfl rfl rfl (by simp only [List.set_cons_succ, List.set_cons_zero]; rfl) ?_
                      refine relSkip rfl rfl rfl rfl (by simp only [List.set_cons_succ, List.set_cons_zero]; rfl) ?_
                      refine relPick Ext.refl rfl rfl rfl rfl _ _ _ rfl rfl (by conv => lhs; whnf) (by simp only [List.set_cons_succ, List.set_cons_zero]; rfl) ?_
                      refine relMove Ext.refl rfl rfl rfl rfl _ (.inr rfl) (by conv => lhs; whnf) (by simp only [List.set_cons_succ, List.set_cons_zero]; rfl) ?_
                      refine relEnd fun w11 hw11 => fill_end ?_
                      have bw11 := bw10.trans (hw11.drew.mono bw10.size)
                      have HV3 := HV2.out w11 (ur.below hw11.drew) (vr.below hw11.drew) (hT.below bw11)
                      replace HV3 := Lib.hid HV3
                      go_wp2_with (go_at_call 23; refine (HV3.out).mono ?_; rintro e w12 ⟨rfl, b12⟩)
                      go_ret
                      exact ⟨rfl, bw11.trans (b12.mono bw11.size)⟩
                · subst k0
                  have i2a : decide ((0 : Int) ≤ (i2 : Int)) = true := by simp
                  have i2b : (i2 : Int) < (k : Int) := by omega
                  have i2c : (0 : Int) ≤ (i2 : Int) := by omega
                  have hOs := hcso.out _ _ _ _ q1 q2
                  rw [← hc3.out] at hOs
                  obtain ⟨c6, hc6⟩ : ∃ c, c = (z1 == z2) := ⟨_, rfl⟩
                  have EZ := fun p q w => neqHw z1 z2 z132 z232 p q w
                  rw [← hc6] at EZ hOs
                  have z1v32 : (z1.map bv).length = 32 := by rw [List.length_map, z132]
                  have z2v32 : (z2.map bv).length = 32 := by rw [List.length_map, z232]
                  obtain ⟨bX1, oX1, rfl⟩ := rl110.someA (mlc_ne0 (by rw [← hn1.out]; omega))
                  obtain ⟨bX2, oX2, rfl⟩ := rl210.someA (mlc_ne0 (by rw [← hn2.out]; omega))
                  have D1 : ∀ w', Below w10.heap.size w10 w' → w'.rangeAt bX1 (oX1 + i1 * 33 + 1) (z1.map bv) := fun w' b => ((rl110.below b).match_atq l12.out i1 _ hp1).2
                  have D2 : ∀ w', Below w10.heap.size w10 w' → w'.rangeAt bX2 (oX2 + i2 * 33 + 1) (z2.map bv) := fun w' b => ((rl210.below b).match_atq l22.out i2 _ hp2).2
                  clear jx1 jx2 q1 q2 hE1' hp1 hp2 hc6 z132 z232
                  replace D1 := Lib.hid D1
                  replace D2 := Lib.hid D2
                  replace z1v32 := Lib.hid z1v32
                  replace z2v32 := Lib.hid z2v32
                  cases c3 with
                  | false =>
                    rw [Bool.false_and] at hOs
                    subst hOs
                    replace EZ := Lib.hid EZ
                    go_upto_region 19 with fail
                    refine wp_region_rel [] Ext (by kernel_rfl) (by kernel_rfl) (by kernel_rfl) Ext.refl Ext.trans (by intro p hp; cases hp) ?_
                    refine relMove Ext.refl rfl rfl rfl rfl _ (.inl rfl) (by conv => lhs; whnf) (by simp only [List.set_cons_succ, List.set_cons_zero]; rfl) ?_
                    refine relPure Ext.refl rfl rfl rfl rfl (c := .bool true) (fun w _ => by go_simp; first | done | rfl) (by simp only [List.set_cons_succ, List.set_cons_zero]; rfl) ?_
                    refine relMove Ext.refl rfl rfl rfl rfl _ (.inl rfl) (by conv => lhs; whnf) (by simp only [List.set_cons_succ, List.set_cons_zero]; rfl) ?_
                    refine relMove Ext.refl rfl rfl rfl rfl _ (.inl rfl) (by conv => lhs; whnf) (by simp only [List.set_cons_succ, List.set_cons_zero]; rfl) ?_
                    refine relPure Ext.refl rfl rfl rfl rfl (c := .bool true) (fun w _ => by go_simp; first | done | rfl) (by simp only [List.set_cons_succ, List.set_cons_zero]; rfl) ?_
                    refine relPick Ext.refl rfl rfl rfl rfl _ _ _ rfl rfl (by conv => lhs; whnf) (by simp only [List.set_cons_succ, List.set_cons_zero]; rfl) ?_
                    refine relMove Ext.refl rfl rfl rfl rfl _ (.inl rfl) (by conv => lhs; whnf) (by simp only [List.set_cons_succ, List.set_cons_zero]; rfl) ?_
                    refine relPure Ext.refl rfl rfl rfl rfl (c := .agg (hcs X1)) (fun w hw => exec_loadAv (aG10.below hw.drew) _ _ rfl rfl _ 32 X1v32.out Tryd.underlying28 rfl (by kernel_rfl)) (by simp only [List.set_cons_succ, List.set_cons_zero]; rfl) ?_
                    refine relPure Ext.refl rfl rfl rfl rfl (c := .agg (hcs X2)) (fun w hw => exec_loadAv (aG210.below hw.drew) _ _ rfl rfl _ 32 X2v32.out Tryd.underlying28 rfl (by kernel_rfl)) (by simp only [List.set_cons_succ, List.set_cons_zero]; rfl) ?_
                    refine relBin Ext.refl rfl rfl rfl rfl _ _ _ _ _ rfl (by conv => lhs; whnf) (by conv => lhs; whnf) (c := .bool false) (fun w => EX.out _ _ w) (by simp only [List.set_cons_succ, List.set_cons_zero]; rfl) ?_
                    refine relPick Ext.refl rfl rfl rfl rfl _ _ _ rfl rfl (by conv => lhs; whnf) (by simp only [List.set_cons_succ, List.set_cons_zero]; rfl) ?_
                    refine relMove Ext.refl rfl rfl rfl rfl _ (.inl rfl) (by conv => lhs; whnf) (by simp only [List.set_cons_succ, List.set_cons_zero]; rfl) ?_
                    refine relSkip rfl rfl rfl rfl (by simp only [List.set_cons_succ, List.set_cons_zero]; rfl) ?_
                    refine relSkip rfl rfl rfl rfl (by simp only [List.set_cons_succ, List.set_cons_zero]; rfl) ?_
                    refine relSkip rfl rfl rfl rfl (by simp only [List.set_cons_succ, List.set_cons_zero]; rfl) ?_
                    refine relSkip rfl rfl rfl rfl (by simp only [List.set_cons_succ, List.set_cons_zero]; rfl) ?_
                    refine relSkip rfl rfl rfl rfl (by simp only [List.set_cons_succ, List.set_cons_zero]; rfl) ?_
                    refine relPick Ext.refl rfl rfl rfl rfl _ _ _ rfl rfl (by conv => lhs; whnf) (by simp only [List.set_cons_succ, List.set_cons_zero]; rfl) ?_
                    refine relMove Ext.refl rfl rfl rfl rfl _ (.inl rfl) (by conv => lhs; whnf) (by simp only [List.set_cons_succ, List.set_cons_zero]; rfl) ?_
                    refine relSkip rfl rfl rfl rfl (by simp only [List.set_cons_succ, List.set_cons_zero]; rfl) ?_
                    refine relSkip rfl rfl rfl rfl (by simp only [List.set_cons_succ, List.set_cons_zero]; rfl) ?_
                    refine relPick Ext.refl rfl rfl rfl rfl _ _ _ rfl rfl (by conv => lhs; whnf) (by simp only [List.set_cons_succ, List.set_cons_zero]; rfl) ?_
                    refine relMove Ext.refl rfl rfl rfl rfl _ (.inl rfl) (by conv => lhs; whnf) (by simp only [List.set_cons_succ, List.set_cons_zero]; rfl) ?_
                    refine relSkip rfl rfl rfl rfl (by simp only [List.set_cons_succ, List.set_cons_zero]; rfl) ?_
                    refine relSkip rfl rfl rfl rfl (by simp only [List.set_cons_succ, List.set_cons_zero]; rfl) ?_
                    refine relPick Ext.refl rfl rfl rfl rfl _ _ _ rfl rfl (by conv => lhs; whnf) (by simp only [List.set_cons_succ, List.set_cons_zero]; rfl) ?_
                    refine relMove Ext.refl rfl rfl rfl rfl _ (.inl rfl) (by conv => lhs; whnf) (by simp only [List.set_cons_succ, List.set_cons_zero]; rfl) ?_
                    refine relSkip rfl rfl rfl rfl (by simp only [List.set_cons_succ, List.set_cons_zero]; rfl) ?_
                    refine relSkip rfl rfl rfl rfl (by simp only [List.set_cons_succ, List.set_cons_zero]; rfl) ?_
                    refine relSkip rfl rfl rfl rfl (by simp only [List.set_cons_succ, List.set_cons_zero]; rfl) ?_
                    refine relSkip rfl rfl rfl rfl (by simp only [List.set_cons_succ, List.set_cons_zero]; rfl) ?_
                    refine relSkip rfl rfl rfl rfl (by simp only [List.set_cons_succ, List.set_cons_zero]; rfl) ?_
                    refine relSkip rfl rfl rfl rfl (by simp only [List.set_cons_succ, List.set_cons_zero]; rfl) ?_
                    refine relSkip rfl rfl rfl rfl (by simp only [List.set_cons_succ, List.set_cons_zero]; rfl) ?_
                    refine relSkip rfl rfl rfl rfl (by simp only [List.set_cons_succ, List.set_cons_zero]; rfl) ?_
                    refine relSkip rfl rfl rfl rfl (by simp only [List.set_cons_succ, List.set_cons_zero]; rfl) ?_
                    refine relSkip rfl rfl rfl rfl (by simp only [List.set_cons_succ, List.set_cons_zero]; rfl) ?_
                    refine relSkip rfl rfl rfl rfl (by simp only [List.set_cons_succ, List.set_cons_zero]; rfl) ?_
                    refine relPick Ext.refl rfl rfl rfl rfl _ _ _ rfl rfl (by conv => lhs; whnf) (by simp only [List.set_cons_succ, List.set_cons_zero]; rfl) ?_
                    refine relMove Ext.refl rfl rfl rfl rfl _ (.inr rfl) (by conv => lhs; whnf) (by simp only [List.set_cons_succ, List.set_cons_zero]; rfl) ?_
                    refine relEnd fun w11 hw11 => fill_end ?_
                    have bw11 := bw10.trans (hw11.drew.mono bw10.size)
                    have HV3 := HV2.out w11 (ur.below hw11.drew) (vr.below hw11.drew) (hT.below bw11)
                    replace HV3 := Lib.hid HV3
                    go_wp2_with (go_at_call 23; refine (HV3.out).mono ?_; rintro e w12 ⟨rfl, b12⟩)
                    go_ret
                    exact ⟨rfl, bw11.trans (b12.mono bw11.size)⟩
                  | true =>
                    by_cases hts : tot1 = tot2
                    · have g3 : ((tot1 : Int) == (tot2 : Int)) = true := by simp; omega
                      rw [decide_eq_true hts, Bool.true_and, Bool.true_and] at hOs
                      clear hts
                      cases c6 with
                      | false =>
                        replace hOs : O = true := hOs
                        subst hOs
                        replace EZ := Lib.hid EZ
                        go_upto_region 19 with fail
                        refine wp_region_rel [] Ext (by kernel_rfl) (by kernel_rfl) (by kernel_rfl) Ext.refl Ext.trans (by intro p hp; cases hp) ?_
                        refine relMove Ext.refl rfl rfl rfl rfl _ (.inl rfl) (by conv => lhs; whnf) (by simp only [List.set_cons_succ, List.set_cons_zero]; rfl) ?_
                        refine relPure Ext.refl rfl rfl rfl rfl (c := .bool true) (fun w _ => by go_simp; first | done | rfl) (by simp only [List.set_cons_succ, List.set_cons_zero]; rfl) ?_
                        refine relMove Ext.refl rfl rfl rfl rfl _ (.inl rfl) (by conv => lhs; whnf) (by simp only [List.set_cons_succ, List.set_cons_zero]; rfl) ?_
                        refine relMove Ext.refl rfl rfl rfl rfl _ (.inl rfl) (by conv => lhs; whnf) (by simp only [List.set_cons_succ, List.set_cons_zero]; rfl) ?_
                        refine relPure Ext.refl rfl rfl rfl rfl (c := .bool true) (fun w _ => by go_simp; first | done | rfl) (by simp only [List.set_cons_succ, List.set_cons_zero]; rfl) ?_
                        refine relPick Ext.refl rfl rfl rfl rfl _ _ _ rfl rfl (by conv => lhs; whnf) (by simp only [List.set_cons_succ, List.set_cons_zero]; rfl) ?_
                        refine relMove Ext.refl rfl rfl rfl rfl _ (.inl rfl) (by conv => lhs; whnf) (by simp only [List.set_cons_succ, List.set_cons_zero]; rfl) ?_
                        refine relPure Ext.refl rfl rfl rfl rfl (c := .agg (hcs X1)) (fun w hw => exec_loadAv (aG10.below hw.drew) _ _ rfl rfl _ 32 X1v32.out Tryd.underlying28 rfl (by kernel_rfl)) (by simp only [List.set_cons_succ, List.set_cons_zero]; rfl) ?_
                        refine relPure Ext.refl rfl rfl rfl rfl (c := .agg (hcs X2)) (fun w hw => exec_loadAv (aG210.below hw.drew) _ _ rfl rfl _ 32 X2v32.out Tryd.underlying28 rfl (by kernel_rfl)) (by simp only [List.set_cons_succ, List.set_cons_zero]; rfl) ?_
                        refine relBin Ext.refl rfl rfl rfl rfl _ _ _ _ _ rfl (by conv => lhs; whnf) (by conv => lhs; whnf) (c := .bool true) (fun w => EX.out _ _ w) (by simp only [List.set_cons_succ, List.set_cons_zero]; rfl) ?_
                        refine relPick Ext.refl rfl rfl rfl rfl _ _ _ rfl rfl (by conv => lhs; whnf) (by simp only [List.set_cons_succ, List.set_cons_zero]; rfl) ?_
                        refine relMove Ext.refl rfl rfl rfl rfl _ (.inl rfl) (by conv => lhs; whnf) (by simp only [List.set_cons_succ, List.set_cons_zero]; rfl) ?_
                        refine relPure Ext.refl rfl rfl rfl rfl (fun w _ => by go_simp; first | done | rfl) (by simp only [List.set_cons_succ, List.set_cons_zero]; rfl) ?_
                        refine relPure Ext.refl rfl rfl rfl rfl (c := .int .u32 (tot1 : Int)) (fun w hw => by have := (aX10.below hw.drew).cell 0 _ rfl; go_simp; first | done | rfl) (by simp only [List.set_cons_succ, List.set_cons_zero]; rfl) ?_
                        refine relPure Ext.refl rfl rfl rfl rfl (fun w _ => by go_simp; first | done | rfl) (by simp only [List.set_cons_succ, List.set_cons_zero]; rfl) ?_
                        refine relPure Ext.refl rfl rfl rfl rfl (c := .int .u32 (tot2 : Int)) (fun w hw => by have := (aZ10.below hw.drew).cell 0 _ rfl; go_simp; first | done | rfl) (by simp only [List.set_cons_succ, List.set_cons_zero]; rfl) ?_
                        refine relPure Ext.refl rfl rfl rfl rfl (c := .bool true) (fun w _ => by go_simp; first | done | rfl) (by simp only [List.set_cons_succ, List.set_cons_zero]; rfl) ?_
                        refine relPick Ext.refl rfl rfl rfl rfl _ _ _ rfl rfl (by conv => lhs; whnf) (by simp only [List.set_cons_succ, List.set_cons_zero]; rfl) ?_
                        refine relMove Ext.refl rfl rfl rfl rfl _ (.inl rfl) (by conv => lhs; whnf) (by simp only [List.set_cons_succ, List.set_cons_zero]; rfl) ?_
                        refine relMove Ext.refl rfl rfl rfl rfl _ (.inl rfl) (by conv => lhs; whnf) (by simp only [List.set_cons_succ, List.set_cons_zero]; rfl) ?_
                        refine relPure Ext.refl rfl rfl rfl rfl (c := .bool true) (fun w _ => by go_simp; first | done | rfl) (by simp only [List.set_cons_succ, List.set_cons_zero]; rfl) ?_
                        refine relPick Ext.refl rfl rfl rfl rfl _ _ _ rfl rfl (by conv => lhs; whnf) (by simp only [List.set_cons_succ, List.set_cons_zero]; rfl) ?_
                        refine relMove Ext.refl rfl rfl rfl rfl _ (.inl rfl) (by conv => lhs; whnf) (by simp only [List.set_cons_succ, List.set_cons_zero]; rfl) ?_
                        refine relMove Ext.refl rfl rfl rfl rfl _ (.inl rfl) (by conv => lhs; whnf) (by simp only [List.set_cons_succ, List.set_cons_zero]; rfl) ?_
                        refine relPure Ext.refl rfl rfl rfl rfl (c := .bool true) (fun w _ => by go_simp; first | done | rfl) (by simp only [List.set_cons_succ, List.set_cons_zero]; rfl) ?_
                        refine relPick Ext.refl rfl rfl rfl rfl _ _ _ rfl rfl (by conv => lhs; whnf) (by simp only [List.set_cons_succ, List.set_cons_zero]; rfl) ?_
                        refine relMove Ext.refl rfl rfl rfl rfl _ (.inl rfl) (by conv => lhs; whnf) (by simp only [List.set_cons_succ, List.set_cons_zero]; rfl) ?_
                        refine relMove Ext.refl rfl rfl rfl rfl _ (.inl rfl) (by conv => lhs; whnf) (by simp only [List.set_cons_succ, List.set_cons_zero]; rfl) ?_
                        refine relMove Ext.refl rfl rfl rfl rfl _ (.inl rfl) (by conv => lhs; whnf) (by simp only [List.set_cons_succ, List.set_cons_zero]; rfl) ?_
                        refine relPure Ext.refl rfl rfl rfl rfl (c := .pointer (some ⟨bX1, oX1 + i1 * 33, none⟩)) (fun w _ => by go_simp; first | done | rfl) (by simp only [List.set_cons_succ, List.set_cons_zero]; rfl) ?_
                        refine relPure Ext.refl rfl rfl rfl rfl (c := .pointer (some ⟨bX1, oX1 + i1 * 33 + 1, none⟩)) (fun w _ => by go_simp; first | done | rfl) (by simp only [List.set_cons_succ, List.set_cons_zero]; rfl) ?_
                        refine relPure Ext.refl rfl rfl rfl rfl (c := .agg (hcs z1)) (fun w hw => exec_load_mid _ _ rfl bX1 (oX1 + i1 * 33 + 1) rfl (z1.map bv) _ (D1.out _ (hw.drew)) Tryd.underlying28 rfl (by rw [z1v32.out]; kernel_rfl)) (by simp only [List.set_cons_succ, List.set_cons_zero]; rfl) ?_
                        refine relMove Ext.refl rfl rfl rfl rfl _ (.inl rfl) (by conv => lhs; whnf) (by simp only [List.set_cons_succ, List.set_cons_zero]; rfl) ?_
                        refine relMove Ext.refl rfl rfl rfl rfl _ (.inl rfl) (by conv => lhs; whnf) (by simp only [List.set_cons_succ, List.set_cons_zero]; rfl) ?_
                        refine relPure Ext.refl rfl rfl rfl rfl (c := .pointer (some ⟨bX2, oX2 + i2 * 33, none⟩)) (fun w _ => by go_simp; first | done | rfl) (by simp only [List.set_cons_succ, List.set_cons_zero]; rfl) ?_
                        refine relPure Ext.refl rfl rfl rfl rfl (c := .pointer (some ⟨bX2, oX2 + i2 * 33 + 1, none⟩)) (fun w _ => by go_simp; first | done | rfl) (by simp only [List.set_cons_succ, List.set_cons_zero]; rfl) ?_
                        refine relPure Ext.refl rfl rfl rfl rfl (c := .agg (hcs z2)) (fun w hw => exec_load_mid _ _ rfl bX2 (oX2 + i2 * 33 + 1) rfl (z2.map bv) _ (D2.out _ (hw.drew)) Tryd.underlying28 rfl (by rw [z2v32.out]; kernel_rfl)) (by simp only [List.set_cons_succ, List.set_cons_zero]; rfl) ?_
                        refine relBin Ext.refl rfl rfl rfl rfl _ _ _ _ _ rfl (by conv => lhs; whnf) (by conv => lhs; whnf) (c := .bool true) (fun w => EZ.out _ _ w) (by simp only [List.set_cons_succ, List.set_cons_zero]; rfl) ?_
                        refine relPick Ext.refl rfl rfl rfl rfl _ _ _ rfl rfl (by conv => lhs; whnf) (by simp only [List.set_cons_succ, List.set_cons_zero]; rfl) ?_
                        refine relMove Ext.refl rfl rfl rfl rfl _ (.inr rfl) (by conv => lhs; whnf) (by simp only [List.set_cons_succ, List.set_cons_zero]; rfl) ?_
                        refine relEnd fun w11 hw11 => fill_end ?_
                        have bw11 := bw10.trans (hw11.drew.mono bw10.size)
                        have HV3 := HV2.out w11 (ur.below hw11.drew) (vr.below hw11.drew) (hT.below bw11)
                        replace HV3 := Lib.hid HV3
                        go_wp2_with (go_at_call 23; refine (HV3.out).mono ?_; rintro e w12 ⟨rfl, b12⟩)
                        go_ret
                        exact ⟨rfl, bw11.trans (b12.mono bw11.size)⟩
                      | true =>
                        replace hOs : O = false := hOs
                        subst hOs
                        replace EZ := Lib.hid EZ
                        go_upto_region 19 with fail
                        refine wp_region_rel [] Ext (by kernel_rfl) (by kernel_rfl) (by kernel_rfl) Ext.refl Ext.trans (by intro p hp; cases hp) ?_
                        refine relMove Ext.refl rfl rfl rfl rfl _ (.inl rfl) (by conv => lhs; whnf) (by simp only [List.set_cons_succ, List.set_cons_zero]; rfl) ?_
                        refine relPure Ext.refl rfl rfl rfl rfl (c := .bool true) (fun w _ => by go_simp; first | done | rfl) (by simp only [List.set_cons_succ, List.set_cons_zero]; rfl) ?_
                        refine relMove Ext.refl rfl rfl rfl rfl _ (.inl rfl) (by conv => lhs; whnf) (by simp only [List.set_cons_succ, List.set_cons_zero]; rfl) ?_
                        refine relMove Ext.refl rfl rfl rfl rfl _ (.inl rfl) (by conv => lhs; whnf) (by simp only [List.set_cons_succ, List.set_cons_zero]; rfl) ?_
                        refine relPure Ext.refl rfl rfl rfl rfl (c := .bool true) (fun w _ => by go_simp; first | done | rfl) (by simp only [List.set_cons_succ, List.set_cons_zero]; rfl) ?_
                        refine relPick Ext.refl rfl rfl rfl rfl _ _ _ rfl rfl (by conv => lhs; whnf) (by simp only [List.set_cons_succ, List.set_cons_zero]; rfl) ?_
                        refine relMove Ext.refl rfl rfl rfl rfl _ (.inl rfl) (by conv => lhs; whnf) (by simp only [List.set_cons_succ, List.set_cons_zero]; rfl) ?_
                        refine relPure Ext.refl rfl rfl rfl rfl (c := .agg (hcs X1)) (fun w hw => exec_loadAv (aG10.below hw.drew) _ _ rfl rfl _ 32 X1v32.out Tryd.underlying28 rfl (by kernel_rfl)) (by simp only [List.set_cons_succ, List.set_cons_zero]; rfl) ?_
                        refine relPure Ext.refl rfl rfl rfl rfl (c := .agg (hcs X2)) (fun w hw => exec_loadAv (aG210.below hw.drew) _ _ rfl rfl _ 32 X2v32.out Tryd.underlying28 rfl (by kernel_rfl)) (by simp only [List.set_cons_succ, List.set_cons_zero]; rfl) ?_
                        refine relBin Ext.refl rfl rfl rfl rfl _ _ _ _ _ rfl (by conv => lhs; whnf) (by conv => lhs; whnf) (c := .bool true) (fun w => EX.out _ _ w) (by simp only [List.set_cons_succ, List.set_cons_zero]; rfl) ?_
                        refine relPick Ext.refl rfl rfl rfl rfl _ _ _ rfl rfl (by conv => lhs; whnf) (by simp only [List.set_cons_succ, List.set_cons_zero]; rfl) ?_
                        refine relMove Ext.refl rfl rfl rfl rfl _ (.inl rfl) (by conv => lhs; whnf) (by simp only [List.set_cons_succ, List.set_cons_zero]; rfl) ?_
                        refine relPure Ext.refl rfl rfl rfl rfl (fun w _ => by go_simp; first | done | rfl) (by simp only [List.set_cons_succ, List.set_cons_zero]; rfl) ?_
                        refine relPure Ext.refl rfl rfl rfl rfl (c := .int .u32 (tot1 : Int)) (fun w hw => by have := (aX10.below hw.drew).cell 0 _ rfl; go_simp; first | done | rfl) (by simp only [List.set_cons_succ, List.set_cons_zero]; rfl) ?_
                        refine relPure Ext.refl rfl rfl rfl rfl (fun w _ => by go_simp; first | done | rfl) (by simp only [List.set_cons_succ, List.set_cons_zero]; rfl) ?_
                        refine relPure Ext.refl rfl rfl rfl rfl (c := .int .u32 (tot2 : Int)) (fun w hw => by have := (aZ10.below hw.drew).cell 0 _ rfl; go_simp; first | done | rfl) (by simp only [List.set_cons_succ, List.set_cons_zero]; rfl) ?_
                        refine relPure Ext.refl rfl rfl rfl rfl (c := .bool true) (fun w _ => by go_simp; first | done | rfl) (by simp only [List.set_cons_succ, List.set_cons_zero]; rfl) ?_
                        refine relPick Ext.refl rfl rfl rfl rfl _ _ _ rfl rfl (by conv => lhs; whnf) (by simp only [List.set_cons_succ, List.set_cons_zero]; rfl) ?_
                        refine relMove Ext.refl rfl rfl rfl rfl _ (.inl rfl) (by conv => lhs; whnf) (by simp only [List.set_cons_succ, List.set_cons_zero]; rfl) ?_
                        refine relMove Ext.refl rfl rfl rfl rfl _ (.inl rfl) (by conv => lhs; whnf) (by simp only [List.set_cons_succ, List.set_cons_zero]; rfl) ?_
                        refine relPure Ext.refl rfl rfl rfl rfl (c := .bool true) (fun w _ => by go_simp; first | done | rfl) (by simp only [List.set_cons_succ, List.set_cons_zero]; rfl) ?_
                        refine relPick Ext.refl rfl rfl rfl rfl _ _ _ rfl rfl (by conv => lhs; whnf) (by simp only [List.set_cons_succ, List.set_cons_zero]; rfl) ?_
                        refine relMove Ext.refl rfl rfl rfl rfl _ (.inl rfl) (by conv => lhs; whnf) (by simp only [List.set_cons_succ, List.set_cons_zero]; rfl) ?_
                        refine relMove Ext.refl rfl rfl rfl rfl _ (.inl rfl) (by conv => lhs; whnf) (by simp only [List.set_cons_succ, List.set_cons_zero]; rfl) ?_
                        refine relPure Ext.refl rfl rfl rfl rfl (c := .bool true) (fun w _ => by go_simp; first | done | rfl) (by simp only [List.set_cons_succ, List.set_cons_zero]; rfl) ?_
                        refine relPick Ext.refl rfl rfl rfl rfl _ _ _ rfl rfl (by conv => lhs; whnf) (by simp only [List.set_cons_succ, List.set_cons_zero]; rfl) ?_
                        refine relMove Ext.refl rfl rfl rfl rfl _ (.inl rfl) (by conv => lhs; whnf) (by simp only [List.set_cons_succ, List.set_cons_zero]; rfl) ?_
                        refine relMove Ext.refl rfl rfl rfl rfl _ (.inl rfl) (by conv => lhs; whnf) (by simp only [List.set_cons_succ, List.set_cons_zero]; rfl) ?_
                        refine relMove Ext.refl rfl rfl rfl rfl _ (.inl rfl) (by conv => lhs; whnf) (by simp only [List.set_cons_succ, List.set_cons_zero]; rfl) ?_
                        refine relPure Ext.refl rfl rfl rfl rfl (c := .pointer (some ⟨bX1, oX1 + i1 * 33, none⟩)) (fun w _ => by go_simp; first | done | rfl) (by simp only [List.set_cons_succ, List.set_cons_zero]; rfl) ?_
                        refine relPure Ext.refl rfl rfl rfl rfl (c := .pointer (some ⟨bX1, oX1 + i1 * 33 + 1, none⟩)) (fun w _ => by go_simp; first | done | rfl) (by simp only [List.set_cons_succ, List.set_cons_zero]; rfl) ?_
                        refine relPure Ext.refl rfl rfl rfl rfl (c := .agg (hcs z1)) (fun w hw => exec_load_mid _ _ rfl bX1 (oX1 + i1 * 33 + 1) rfl (z1.map bv) _ (D1.out _ (hw.drew)) Tryd.underlying28 rfl (by rw [z1v32.out]; kernel_rfl)) (by simp only [List.set_cons_succ, List.set_cons_zero]; rfl) ?_
                        refine relMove Ext.refl rfl rfl rfl rfl _ (.inl rfl) (by conv => lhs; whnf) (by simp only [List.set_cons_succ, List.set_cons_zero]; rfl) ?_
                        refine relMove Ext.refl rfl rfl rfl rfl _ (.inl rfl) (by conv => lhs; whnf) (by simp only [List.set_cons_succ, List.set_cons_zero]; rfl) ?_
                        refine relPure Ext.refl rfl rfl rfl rfl (c := .pointer (some ⟨bX2, oX2 + i2 * 33, none⟩)) (fun w _ => by go_simp; first | done | rfl) (by simp only [List.set_cons_succ, List.set_cons_zero]; rfl) ?_
                        refine relPure Ext.refl rfl rfl rfl rfl (c := .pointer (some ⟨bX2, oX2 + i2 * 33 + 1, none⟩)) (fun w _ => by go_simp; first | done | rfl) (by simp only [List.set_cons_succ, List.set_cons_zero]; rfl) ?_
                        refine relPure Ext.refl rfl rfl rfl rfl (c := .agg (hcs z2)) (fun w hw => exec_load_mid _ _ rfl bX2 (oX2 + i2 * 33 + 1) rfl (z2.map bv) _ (D2.out _ (hw.drew)) Tryd.underlying28 rfl (by rw [z2v32.out]; kernel_rfl)) (by simp only [List.set_cons_succ, List.set_cons_zero]; rfl) ?_
                        refine relBin Ext.refl rfl rfl rfl rfl _ _ _ _ _ rfl (by conv => lhs; whnf) (by conv => lhs; whnf) (c := .bool false) (fun w => EZ.out _ _ w) (by simp only [List.set_cons_succ, List.set_cons_zero]; rfl) ?_
                        refine relPick Ext.refl rfl rfl rfl rfl _ _ _ rfl rfl (by conv => lhs; whnf) (by simp only [List.set_cons_succ, List.set_cons_zero]; rfl) ?_
                        refine relMove Ext.refl rfl rfl rfl rfl _ (.inr rfl) (by conv => lhs; whnf) (by simp only [List.set_cons_succ, List.set_cons_zero]; rfl) ?_
                        refine relEnd fun w11 hw11 => fill_end ?_
                        have bw11 := bw10.trans (hw11.drew.mono bw10.size)
                        have HV3 := HV2.out w11 (ur.below hw11.drew) (vr.below hw11.drew) (hT.below bw11)
                        replace HV3 := Lib.hid HV3
                        go_wp2_with (go_at_call 23; refine (HV3.out).mono ?_; rintro e w12 ⟨rfl, b12⟩)
                        go_ret
                        exact ⟨rfl, bw11.trans (b12.mono bw11.size)⟩
                    · have g3 : ((tot1 : Int) == (tot2 : Int)) = false := by simp; omega
                      rw [decide_eq_false hts, Bool.true_and, Bool.false_and] at hOs
                      subst hOs
                      replace EZ := Lib.hid EZ
                      clear hts
                      go_upto_region 19 with fail
                      refine wp_region_rel [] Ext (by kernel_rfl) (by kernel_rfl) (by kernel_rfl) Ext.refl Ext.trans (by intro p hp; cases hp) ?_
                      refine relMove Ext.refl rfl rfl rfl rfl _ (.inl rfl) (by conv => lhs; whnf) (by simp only [List.set_cons_succ, List.set_cons_zero]; rfl) ?_
                      refine relPure Ext.refl rfl rfl rfl rfl (c := .bool true) (fun w _ => by go_simp; first | done | rfl) (by simp only [List.set_cons_succ, List.set_cons_zero]; rfl) ?_
                      refine relMove Ext.refl rfl rfl rfl rfl _ (.inl rfl) (by conv => lhs; whnf) (by simp only [List.set_cons_succ, List.set_cons_zero]; rfl) ?_
                      refine relMove Ext.refl rfl rfl rfl rfl _ (.inl rfl) (by conv => lhs; whnf) (by simp only [List.set_cons_succ, List.set_cons_zero]; rfl) ?_
                      refine relPure Ext.refl rfl rfl rfl rfl (c := .bool true) (fun w _ => by go_simp; first | done | rfl) (by simp only [List.set_cons_succ, List.set_cons_zero]; rfl) ?_
                      refine relPick Ext.refl rfl rfl rfl rfl _ _ _ rfl rfl (by conv => lhs; whnf) (by simp only [List.set_cons_succ, List.set_cons_zero]; rfl) ?_
                      refine relMove Ext.refl rfl rfl rfl rfl _ (.inl rfl) (by conv => lhs; whnf) (by simp only [List.set_cons_succ, List.set_cons_zero]; rfl) ?_
                      refine relPure Ext.refl rfl rfl rfl rfl (c := .agg (hcs X1)) (fun w hw => exec_loadAv (aG10.below hw.drew) _ _ rfl rfl _ 32 X1v32.out Tryd.underlying28 rfl (by kernel_rfl)) (by simp only [List.set_cons_succ, List.set_cons_zero]; rfl) ?_
                      refine relPure Ext.refl rfl rfl rfl rfl (c := .agg (hcs X2)) (fun w hw => exec_loadAv (aG210.below hw.drew) _ _ rfl rfl _ 32 X2v32.out Tryd.underlying28 rfl (by kernel_rfl)) (by simp only [List.set_cons_succ, List.set_cons_zero]; rfl) ?_
                      refine relBin Ext.refl rfl rfl rfl rfl _ _ _ _ _ rfl (by conv => lhs; whnf) (by conv => lhs; whnf) (c := .bool true) (fun w => EX.out _ _ w) (by simp only [List.set_cons_succ, List.set_cons_zero]; rfl) ?_
                      refine relPick Ext.refl rfl rfl rfl rfl _ _ _ rfl rfl (by conv => lhs; whnf) (by simp only [List.set_cons_succ, List.set_cons_zero]; rfl) ?_
                      refine relMove Ext.refl rfl rfl rfl rfl _ (.inl rfl) (by conv => lhs; whnf) (by simp only [List.set_cons_succ, List.set_cons_zero]; rfl) ?_
                      refine relPure Ext.refl rfl rfl rfl rfl (fun w _ => by go_simp; first | done | rfl) (by simp only [List.set_cons_succ, List.set_cons_zero]; rfl) ?_
                      refine relPure Ext.refl rfl rfl rfl rfl (c := .int .u32 (tot1 : Int)) (fun w hw => by have := (aX10.below hw.drew).cell 0 _ rfl; go_simp; first | done | rfl) (by simp only [List.set_cons_succ, List.set_cons_zero]; rfl) ?_
                      refine relPure Ext.refl rfl rfl rfl rfl (fun w _ => by go_simp; first | done | rfl) (by simp only [List.set_cons_succ, List.set_cons_zero]; rfl) ?_
                      refine relPure Ext.refl rfl rfl rfl rfl (c := .int .u32 (tot2 : Int)) (fun w hw => by have := (aZ10.below hw.drew).cell 0 _ rfl; go_simp; first | done | rfl) (by simp only [List.set_cons_succ, List.set_cons_zero]; rfl) ?_
                      refine relPure Ext.refl rfl rfl rfl rfl (c := .bool false) (fun w _ => by go_simp; first | done | rfl) (by simp only [List.set_cons_succ, List.set_cons_zero]; rfl) ?_
                      refine relPick Ext.refl rfl rfl rfl rfl _ _ _ rfl rfl (by conv => lhs; whnf) (by simp only [List.set_cons_succ, List.set_cons_zero]; rfl) ?_
                      refine relMove Ext.refl rfl rfl rfl rfl _ (.inl rfl) (by conv => lhs; whnf) (by simp only [List.set_cons_succ, List.set_cons_zero]; rfl) ?_
                      refine relSkip rfl rfl rfl rfl (by simp only [List.set_cons_succ, List.set_cons_zero]; rfl) ?_
                      refine relSkip rfl rfl rfl rfl (by simp only [List.set_cons_succ, List.set_cons_zero]; rfl) ?_
                      refine relPick Ext.refl rfl rfl rfl rfl _ _ _ rfl rfl (by conv => lhs; whnf) (by simp only [List.set_cons_succ, List.set_cons_zero]; rfl) ?_
                      refine relMove Ext.refl rfl rfl rfl rfl _ (.inl rfl) (by conv => lhs; whnf) (by simp only [List.set_cons_succ, List.set_cons_zero]; rfl) ?_
                      refine relSkip rfl rfl rfl rfl (by simp only [List.set_cons_succ, List.set_cons_zero]; rfl) ?_
                      refine relSkip rfl rfl rfl rfl (by simp only [List.set_cons_succ, List.set_cons_zero]; rfl) ?_
                      refine relPick Ext.refl rfl rfl rfl rfl _ _ _ rfl rfl (by conv => lhs; whnf) (by simp only [List.set_cons_succ, List.set_cons_zero]; rfl) ?_
                      refine relMove Ext.refl rfl rfl rfl rfl _ (.inl rfl) (by conv => lhs; whnf) (by simp only [List.set_cons_succ, List.set_cons_zero]; rfl) ?_
                      refine relSkip rfl rfl rfl rfl (by simp only [List.set_cons_succ, List.set_cons_zero]; rfl) ?_
                      refine relSkip rfl rfl rfl rfl (by simp only [List.set_cons_succ, List.set_cons_zero]; rfl) ?_
                      refine relSkip rfl rfl rfl rfl (by simp only [List.set_cons_succ, List.set_cons_zero]; rfl) ?_
                      refine relSkip rfl rfl rfl rfl (by simp only [List.set_cons_succ, List.set_cons_zero]; rfl) ?_
                      refine relSkip rfl rfl rfl rfl (by simp only [List.set_cons_succ, List.set_cons_zero]; rfl) ?_
                      refine relSkip rfl rfl rfl rfl (by simp only [List.set_cons_succ, List.set_cons_zero]; rfl) ?_
                      refine relSkip rfl rfl rfl rfl (by simp only [List.set_cons_succ, List.set_cons_zero]; rfl) ?_
                      refine relSkip rfl rfl rfl rfl (by simp only [List.set_cons_succ, List.set_cons_zero]; rfl) ?_
                      refine relSkip rfl rfl rfl rfl (by simp only [List.set_cons_succ, List.set_cons_zero]; rfl) ?_
                      refine relSkip rfl rfl rfl rfl (by simp only [List.set_cons_succ, List.set_cons_zero]; rfl) ?_
                      refine relSkip rfl rfl rfl rfl (by simp only [List.set_cons_succ, List.set_cons_zero]; rfl) ?_
                      refine relPick Ext.refl rfl rfl rfl rfl _ _ _ rfl rfl (by conv => lhs; whnf) (by simp only [List.set_cons_succ, List.set_cons_zero]; rfl) ?_
                      refine relMove Ext.refl rfl rfl rfl rfl _ (.inr rfl) (by conv => lhs; whnf) (by simp only [List.set_cons_succ, List.set_cons_zero]; rfl) ?_
                      refine relEnd fun w11 hw11 => fill_end ?_
                      have bw11 := bw10.trans (hw11.drew.mono bw10.size)
                      have HV3 := HV2.out w11 (ur.below hw11.drew) (vr.below hw11.drew) (hT.below bw11)
                      replace HV3 := Lib.hid HV3
                      go_wp2_with (go_at_call 23; refine (HV3.out).mono ?_; rintro e w12 ⟨rfl, b12⟩)
                      go_ret
                      exact ⟨rfl, bw11.trans (b12.mono bw11.size)⟩
            · have hOf : O = false := by
                refine hcn.out (.inr ?_)
                rcases jx2.out with ⟨_, q⟩ | ⟨_, _, _, _, _, _, _, q⟩
                · exact q
                · have := ee2.out _ q
                  rw [y0] at this
                  cases this
              subst hOf
              subst y0
              clear hE1 hE2 ee2
              go_upto_region 19 with fail
              refine wp_region_rel [] Ext (by kernel_rfl) (by kernel_rfl) (by kernel_rfl) Ext.refl Ext.trans (by intro p hp; cases hp) ?_
              refine relMove Ext.refl rfl rfl rfl rfl _ (.inl rfl) (by conv => lhs; whnf) (by simp only [List.set_cons_succ, List.set_cons_zero]; rfl) ?_
              refine relPure Ext.refl rfl rfl rfl rfl (c := .bool true) (fun w _ => by go_simp; first | done | rfl) (by simp only [List.set_cons_succ, List.set_cons_zero]; rfl) ?_
              refine relMove Ext.refl rfl rfl rfl rfl _ (.inl rfl) (by conv => lhs; whnf) (by simp only [List.set_cons_succ, List.set_cons_zero]; rfl) ?_
              refine relMove Ext.refl rfl rfl rfl rfl _ (.inl rfl) (by conv => lhs; whnf) (by simp only [List.set_cons_succ, List.set_cons_zero]; rfl) ?_
              refine relPure Ext.refl rfl rfl rfl rfl (c := .bool false) (fun w _ => by go_simp; first | done | rfl) (by simp only [List.set_cons_succ, List.set_cons_zero]; rfl) ?_
              refine relPick Ext.refl rfl rfl rfl rfl _ _ _ rfl rfl (by conv => lhs; whnf) (by simp only [List.set_cons_succ, List.set_cons_zero]; rfl) ?_
              refine relMove Ext.refl rfl rfl rfl rfl _ (.inl rfl) (by conv => lhs; whnf) (by simp only [List.set_cons_succ, List.set_cons_zero]; rfl) ?_
              refine relSkip rfl rfl rfl rfl (by simp only [List.set_cons_succ, List.set_cons_zero]; rfl) ?_
              refine relSkip rfl rfl rfl rfl (by simp only [List.set_cons_succ, List.set_cons_zero]; rfl) ?_
              refine relSkip rfl rfl rfl rfl (by simp only [List.set_cons_succ, List.set_cons_zero]; rfl) ?_
              refine relPick Ext.refl rfl rfl rfl rfl _ _ _ rfl rfl (by conv => lhs; whnf) (by simp only [List.set_cons_succ, List.set_cons_zero]; rfl) ?_
              refine relMove Ext.refl rfl rfl rfl rfl _ (.inl rfl) (by conv => lhs; whnf) (by simp only [List.set_cons_succ, List.set_cons_zero]; rfl) ?_
              refine relSkip rfl rfl rfl rfl (by simp only [List.set_cons_succ, List.set_cons_zero]; rfl) ?_
              refine relSkip rfl rfl rfl rfl (by simp only [List.set_cons_succ, List.set_cons_zero]; rfl) ?_
              refine relSkip rfl rfl rfl rfl (by simp only [List.set_cons_succ, List.set_cons_zero]; rfl) ?_
              refine relSkip rfl rfl rfl rfl (by simp only [List.set_cons_succ, List.set_cons_zero]; rfl) ?_
              refine relSkip rfl rfl rfl rfl (by simp only [List.set_cons_succ, List.set_cons_zero]; rfl) ?_
              refine relPick Ext.refl rfl rfl rfl rfl _ _ _ rfl rfl (by conv => lhs; whnf) (by simp only [List.set_cons_succ, List.set_cons_zero]; rfl) ?_
              refine relMove Ext.refl rfl rfl rfl rfl _ (.inl rfl) (by conv => lhs; whnf) (by simp only [List.set_cons_succ, List.set_cons_zero]; rfl) ?_
              refine relSkip rfl rfl rfl rfl (by simp only [List.set_cons_succ, List.set_cons_zero]; rfl) ?_
              refine relSkip rfl rfl rfl rfl (by simp only [List.set_cons_succ, List.set_cons_zero]; rfl) ?_
              refine relPick Ext.refl rfl rfl rfl rfl _ _ _ rfl rfl (by conv => lhs; whnf) (by simp only [List.set_cons_succ, List.set_cons_zero]; rfl) ?_
              refine relMove Ext.refl rfl rfl rfl rfl _ (.inl rfl) (by conv => lhs; whnf) (by simp only [List.set_cons_succ, List.set_cons_zero]; rfl) ?_
              refine relSkip rfl rfl rfl rfl (by simp only [List.set_cons_succ, List.set_cons_zero]; rfl) ?_
              refine relSkip rfl rfl rfl rfl (by simp only [List.set_cons_succ, List.set_cons_zero]; rfl) ?_
              refine relPick Ext.refl rfl rfl rfl rfl _ _ _ rfl rfl (by conv => lhs; whnf) (by simp only [List.set_cons_succ, List.set_cons_zero]; rfl) ?_
              refine relMove Ext.refl rfl rfl rfl rfl _ (.inl rfl) (by conv => lhs; whnf) (by simp only [List.set_cons_succ, List.set_cons_zero]; rfl) ?_
              refine relSkip rfl rfl rfl rfl (by simp only [List.set_cons_succ, List.set_cons_zero]; rfl) ?_
              refine relSkip rfl rfl rfl rfl (by simp only [List.set_cons_succ, List.set_cons_zero]; rfl) ?_
              refine relSkip rfl rfl rfl rfl (by simp only [List.set_cons_succ, List.set_cons_zero]; rfl) ?_
              refine relSkip rfl rfl rfl rfl (by simp only [List.set_cons_succ, List.set_cons_zero]; rfl) ?_
              refine relSkip rfl rfl rfl rfl (by simp only [List.set_cons_succ, List.set_cons_zero]; rfl) ?_
              refine relSkip rfl rfl rfl rfl (by simp only [List.set_cons_succ, List.set_cons_zero]; rfl) ?_
              refine relSkip rfl rfl rfl rfl (by simp only [List.set_cons_succ, List.set_cons_zero]; rfl) ?_
              refine relSkip rfl rfl rfl rfl (by simp only [List.set_cons_succ, List.set_cons_zero]; rfl) ?_
              refine relSkip rfl rfl rfl rfl (by simp only [List.set_cons_succ, List.set_cons_zero]; rfl) ?_
              refine relSkip rfl rfl rfl rfl (by simp only [List.set_cons_succ, List.set_cons_zero]; rfl) ?_
              refine relSkip rfl rfl rfl rfl (by simp only [List.set_cons_succ, List.set_cons_zero]; rfl) ?_
              refine relPick Ext.refl rfl rfl rfl rfl _ _ _ rfl rfl (by conv => lhs; whnf) (by simp only [List.set_cons_succ, List.set_cons_zero]; rfl) ?_
              refine relMove Ext.refl rfl rfl rfl rfl _ (.inr rfl) (by conv => lhs; whnf) (by simp only [List.set_cons_succ, List.set_cons_zero]; rfl) ?_
              refine relEnd fun w11 hw11 => fill_end ?_
              have bw11 := bw10.trans (hw11.drew.mono bw10.size)
              have HV3 := HV2.out w11 (ur.below hw11.drew) (vr.below hw11.drew) (hT.below bw11)
              replace HV3 := Lib.hid HV3
              go_wp2_with (go_at_call 23; refine (HV3.out).mono ?_; rintro e w12 ⟨rfl, b12⟩)
              go_ret
              exact ⟨rfl, bw11.trans (b12.mono bw11.size)⟩
          · have hOf : O = false := by
              refine hcn.out (.inl ?_)
              rcases jx1.out with ⟨_, q⟩ | ⟨_, _, _, _, _, _, _, q⟩
              · exact q
              · have := ee1.out _ q
                rw [x0] at this
                cases this
            subst hOf
            subst x0
            clear hE1 hE2 ee1
            go_upto_region 19 with fail
            refine wp_region_rel [] Ext (by kernel_rfl) (by kernel_rfl) (by kernel_rfl) Ext.refl Ext.trans (by intro p hp; cases hp) ?_
            refine relMove Ext.refl rfl rfl rfl rfl _ (.inl rfl) (by conv => lhs; whnf) (by simp only [List.set_cons_succ, List.set_cons_zero]; rfl) ?_
            refine relPure Ext.refl rfl rfl rfl rfl (c := .bool false) (fun w _ => by go_simp; first | done | rfl) (by simp only [List.set_cons_succ, List.set_cons_zero]; rfl) ?_
            refine relMove Ext.refl rfl rfl rfl rfl _ (.inl rfl) (by conv => lhs; whnf) (by simp only [List.set_cons_succ, List.set_cons_zero]; rfl) ?_
            refine relSkip rfl rfl rfl rfl (by simp only [List.set_cons_succ, List.set_cons_zero]; rfl) ?_
            refine relSkip rfl rfl rfl rfl (by simp only [List.set_cons_succ, List.set_cons_zero]; rfl) ?_
            refine relPick Ext.refl rfl rfl rfl rfl _ _ _ rfl rfl (by conv => lhs; whnf) (by simp only [List.set_cons_succ, List.set_cons_zero]; rfl) ?_
            refine relMove Ext.refl rfl rfl rfl rfl _ (.inl rfl) (by conv => lhs; whnf) (by simp only [List.set_cons_succ, List.set_cons_zero]; rfl) ?_
            refine relSkip rfl rfl rfl rfl (by simp only [List.set_cons_succ, List.set_cons_zero]; rfl) ?_
            refine relSkip rfl rfl rfl rfl (by simp only [List.set_cons_succ, List.set_cons_zero]; rfl) ?_
            refine relSkip rfl rfl rfl rfl (by simp only [List.set_cons_succ, List.set_cons_zero]; rfl) ?_
            refine relPick Ext.refl rfl rfl rfl rfl _ _ _ rfl rfl (by conv => lhs; whnf) (by simp only [List.set_cons_succ, List.set_cons_zero]; rfl) ?_
            refine relMove Ext.refl rfl rfl rfl rfl _ (.inl rfl) (by conv => lhs; whnf) (by simp only [List.set_cons_succ, List.set_cons_zero]; rfl) ?_
            refine relSkip rfl rfl rfl rfl (by simp only [List.set_cons_succ, List.set_cons_zero]; rfl) ?_
            refine relSkip rfl rfl rfl rfl (by simp only [List.set_cons_succ, List.set_cons_zero]; rfl) ?_
            refine relSkip rfl rfl rfl rfl (by simp only [List.set_cons_succ, List.set_cons_zero]; rfl) ?_
            refine relSkip rfl rfl rfl rfl (by simp only [List.set_cons_succ, List.set_cons_zero]; rfl) ?_
            refine relSkip rfl rfl rfl rfl (by simp only [List.set_cons_succ, List.set_cons_zero]; rfl) ?_
            refine relPick Ext.refl rfl rfl rfl rfl _ _ _ rfl rfl (by conv => lhs; whnf) (by simp only [List.set_cons_succ, List.set_cons_zero]; rfl) ?_
            refine relMove Ext.refl rfl rfl rfl rfl _ (.inl rfl) (by conv => lhs; whnf) (by simp only [List.set_cons_succ, List.set_cons_zero]; rfl) ?_
            refine relSkip rfl rfl rfl rfl (by simp only [List.set_cons_succ, List.set_cons_zero]; rfl) ?_
            refine relSkip rfl rfl rfl rfl (by simp only [List.set_cons_succ, List.set_cons_zero]; rfl) ?_
            refine relPick Ext.refl rfl rfl rfl rfl _ _ _ rfl rfl (by conv => lhs; whnf) (by simp only [List.set_cons_succ, List.set_cons_zero]; rfl) ?_
            refine relMove Ext.refl rfl rfl rfl rfl _ (.inl rfl) (by conv => lhs; whnf) (by simp only [List.set_cons_succ, List.set_cons_zero]; rfl) ?_
            refine relSkip rfl rfl rfl rfl (by simp only [List.set_cons_succ, List.set_cons_zero]; rfl) ?_
            refine relSkip rfl rfl rfl rfl (by simp only [List.set_cons_succ, List.set_cons_zero]; rfl) ?_
            refine relPick Ext.refl rfl rfl rfl rfl _ _ _ rfl rfl (by conv => lhs; whnf) (by simp only [List.set_cons_succ, List.set_cons_zero]; rfl) ?_
            refine relMove Ext.refl rfl rfl rfl rfl _ (.inl rfl) (by conv => lhs; whnf) (by simp only [List.set_cons_succ, List.set_cons_zero]; rfl) ?_
            refine relSkip rfl rfl rfl rfl (by simp only [List.set_cons_succ, List.set_cons_zero]; rfl) ?_
            refine relSkip rfl rfl rfl rfl (by simp only [List.set_cons_succ, List.set_cons_zero]; rfl) ?_
            refine relSkip rfl rfl rfl rfl (by simp only [List.set_cons_succ, List.set_cons_zero]; rfl) ?_
            refine relSkip rfl rfl rfl rfl (by simp only [List.set_cons_succ, List.set_cons_zero]; rfl) ?_
            refine relSkip rfl rfl rfl rfl (by simp only [List.set_cons_succ, List.set_cons_zero]; rfl) ?_
            refine relSkip rfl rfl rfl rfl (by simp only [List.set_cons_succ, List.set_cons_zero]; rfl) ?_
            refine relSkip rfl rfl rfl rfl (by simp only [List.set_cons_succ, List.set_cons_zero]; rfl) ?_
            refine relSkip rfl rfl rfl rfl (by simp only [List.set_cons_succ, List.set_cons_zero]; rfl) ?_
            refine relSkip rfl rfl rfl rfl (by simp only [List.set_cons_succ, List.set_cons_zero]; rfl) ?_
            refine relSkip rfl rfl rfl rfl (by simp only [List.set_cons_succ, List.set_cons_zero]; rfl) ?_
            refine relSkip rfl rfl rfl rfl (by simp only [List.set_cons_succ, List.set_cons_zero]; rfl) ?_
            refine relPick Ext.refl rfl rfl rfl rfl _ _ _ rfl rfl (by conv => lhs; whnf) (by simp only [List.set_cons_succ, List.set_cons_zero]; rfl) ?_
            refine relMove Ext.refl rfl rfl rfl rfl _ (.inr rfl) (by conv => lhs; whnf) (by simp only [List.set_cons_succ, List.set_cons_zero]; rfl) ?_
            refine relEnd fun w11 hw11 => fill_end ?_
            have bw11 := bw10.trans (hw11.drew.mono bw10.size)
            have HV3 := HV2.out w11 (ur.below hw11.drew) (vr.below hw11.drew) (hT.below bw11)
            replace HV3 := Lib.hid HV3
            go_wp2_with (go_at_call 23; refine (HV3.out).mono ?_; rintro e w12 ⟨rfl, b12⟩)
            go_ret
            exact ⟨rfl, bw11.trans (b12.mono bw11.size)⟩
theorem law_ProofWitness (fl1 : List UInt8) (hs1 : List (List UInt8)) (g1 : All32 hs1) (tot1 : Nat) (Ah1 : Option Addr) (nh1 ch1 : Nat) (Af1 : Option Addr) (nf1 cf1 : Nat) (hnh1 : hs1.length = nh1) (hnf1 : fl1.length = nf1) (ht1 : tot1 < 4294967296) (_ : nh1 ≤ ch1) (_ : nf1 ≤ cf1) (fl2 : List UInt8) (hs2 : List (List UInt8)) (g2 : All32 hs2) (tot2 : Nat) (Ah2 : Option Addr) (nh2 ch2 : Nat) (Af2 : Option Addr) (nf2 cf2 : Nat) (hnh2 : hs2.length = nh2) (hnf2 : fl2.length = nf2) (ht2 : tot2 < 4294967296) (_ : nh2 ≤ ch2) (_ : nf2 ≤ cf2) (pos : Int) (w : World) (hrh1 : Rd w Ah1 (hcl hs1)) (hrf1 : Rd w Af1 (fl1.map bv)) (hrh2 : Rd w Ah2 (hcl hs2)) (hrf2 : Rd w Af2 (fl2.map bv)) (hT : Tabs w) : Calls Tryd.prog 5 #[.agg (trc tot1 Ah1 nh1 ch1 Af1 nf1 cf1).toArray, .agg (trc tot2 Ah2 nh2 ch2 Af2 nf2 cf2).toArray, .int .i64 pos] w fun e w' => e = .returned (.bool true) ∧ Below w.heap.size w w' := by
  by_cases h : nh1 ≤ 60 ∧ nf1 ≤ 60
  · by_cases k : nh2 ≤ 60 ∧ nf2 ≤ 60
    · exact pwit_1 fl1 hs1 g1 tot1 Ah1 nh1 ch1 Af1 nf1 cf1 hnh1 hnf1 ht1 fl2 hs2 g2 tot2 Ah2 nh2 ch2 Af2 nf2 cf2 hnh2 hnf2 ht2 pos h k w hrh1 hrf1 hrh2 hrf2 hT
    · exact pwit_01 tot1 Ah1 nh1 ch1 Af1 nf1 cf1 tot2 Ah2 nh2 ch2 Af2 nf2 cf2 pos (by simp only [h, decide_true, and_self]) (by simp only [k, decide_false]) w hT
  · exact pwit_0 tot1 Ah1 nh1 ch1 Af1 nf1 cf1 tot2 Ah2 nh2 ch2 Af2 nf2 cf2 pos (by simp only [h, decide_false]) w hT
end Go.Proofs.YtdkknincamkhpaaDoor
