/- merkle.Branch. -/
import Derived.Test.YtngindljhlbglaaDoorClv
import Derived.Test.YtngindljhlbglaaDoorWid
namespace Go.Proofs.YtngindljhlbglaaDoor
open Go.RowKit Go.Shelf
attribute [local go_sem] Oper.semAt_some

/-- where the place has come behind levels -/
def mBrI : List (List (List UInt8)) → Nat → Nat
  | [], i => i
  | x :: r, i => if 1 < x.length then mBrI r (i / 2) else mBrI r i
theorem mBr_append : ∀ (ls ms : List (List (List UInt8))) (i : Nat), mBr (ls ++ ms) i = mBr ls i ++ mBr ms (mBrI ls i)
  | [], ms, i => by rw [List.nil_append, mBr, mBrI]; rfl
  | x :: r, ms, i => by
    rw [List.cons_append, mBr, mBr, mBrI]
    split
    · rw [mBr_append r ms (i / 2)]; rfl
    · rw [mBr_append r ms i]
theorem mBrI_append : ∀ (ls ms : List (List (List UInt8))) (i : Nat), mBrI (ls ++ ms) i = mBrI ms (mBrI ls i)
  | [], ms, i => by rw [List.nil_append, mBrI]
  | x :: r, ms, i => by
    rw [List.cons_append, mBrI, mBrI]
    split
    · rw [mBrI_append r ms (i / 2)]
    · rw [mBrI_append r ms i]
theorem mBrI_le : ∀ (ls : List (List (List UInt8))) (i : Nat), mBrI ls i ≤ i
  | [], i => Nat.le_refl _
  | x :: r, i => by
    rw [mBrI]
    split
    · exact Nat.le_trans (mBrI_le r (i / 2)) (Nat.div_le_self _ _)
    · exact mBrI_le r i
theorem mBr_len : ∀ (ls : List (List (List UInt8))) (i : Nat), (mBr ls i).length ≤ ls.length
  | [], _ => Nat.le_refl _
  | x :: r, i => by
    rw [mBr]
    split
    · rw [List.length_cons, List.length_cons]; have := mBr_len r (i / 2); omega
    · rw [List.length_cons]; have := mBr_len r i; omega
set_option maxRecDepth 10000 in
set_option maxHeartbeats 2000000 in
theorem Branch (l : List (List UInt8)) (h32 : All32 l) (A0 : Option Addr) (m c0 : Nat) (hm : l.length = m) (hm2 : m ≤ 4096) (i : Nat) (him : i < m) (w : World) (hr : Rd w A0 (hcl l)) (ht : Tabs w) :
    Calls Tryd.prog 16 #[.slice A0 m c0, .int .i64 (i : Int)] w fun e w' => ∃ v, e = .returned (.tuple #[v, .bool true]) ∧ w'.ownsRow w.heap.size 25 32 v (mBr (mLv l) i).length (hcl (mBr (mLv l) i)) ∧ Below w.heap.size w w' := by
  have g1 : decide ((i : Int) < 0) = false := by simp
  have g2 : decide ((m : Int) ≤ (i : Int)) = false := by simp; omega
  have g3 : decide ((4096 : Int) < (m : Int)) = false := by simp; omega
  replace hm := Lib.hid hm
  refine (callsIn_wide (n := 5)).1 ?_
  refine callsIn_of_wp_marks Tryd.func16 rfl trivial ?_ rfl
  simp only [Tryd.ntmps16, List.size_toArray, List.length_cons, List.length_nil, Nat.reduceAdd, Nat.reduceSub, Array.replicate_succ, Array.replicate_zero, List.push_toArray, List.append_toArray, List.nil_append, List.cons_append]
  refine wpIn_wide.2 ?_
  go_wp2_with (go_at_call 25; refine (levels A0 m c0 _).mono ?_; rintro e w1 ⟨rfl, rfl⟩)
  obtain ⟨W0, hW0⟩ : ∃ W0, W0 = ((w.alloc (.cells #[.int .i64 (i : Int)] 3)).alloc (.cells #[.slice none 0 0] 22)).alloc (.cells #[.slice A0 m c0] 22) := ⟨_, rfl⟩
  have e : ∀ (v : World) (o : Obj), (v.alloc o).heap.size = v.heap.size + 1 := fun v o => by simp
  have hsz : W0.heap.size = w.heap.size + 3 := by rw [hW0, e, e, e]
  have hB0 : Below w.heap.size w W0 := by rw [hW0]; exact (((Below.refl _ _).alloc (Nat.le_refl _) _).alloc (by simp) _).alloc (by simp; omega) _
  have hA0 : Av W0 w.heap.size 3 [.int .i64 (i : Int)] := by rw [hW0]; exact Av.alloc (heap_alloc2_old _ _ _) _
  have hA1 : Av W0 (w.heap.size + 1) 22 [.slice none 0 0] := by rw [hW0]; exact Av.alloc (heap_alloc2_new _ _ _) _
  have hcb : W0.cell? ⟨w.heap.size + 1 + 1, 0, none⟩ = some (.slice A0 m c0) := by
    have := heap_alloc_new ((w.alloc (.cells #[.int .i64 (i : Int)] 3)).alloc (.cells #[.slice none 0 0] 22)) (.cells #[.slice A0 m c0] 22)
    rw [← hW0, e, e] at this
    exact Av.cell (l := [.slice A0 m c0]) this 0 _ rfl
  rw [← hW0]
  clear hW0
  have hl13 := mLv_len l
  refine wpIn_wide.1 (wpIn_rangeFunc_lv (n := 5) (by omega) (gf := 30) (lb := #[.pointer (some ⟨w.heap.size + 1 + 1, 0, none⟩)]) rfl (enters_of Tryd.func30 (by kernel_rfl) rfl)
    (levels1_in 4 (by omega) l h32 A0 m c0 hm.out (w.heap.size + 1 + 1) W0 hcb (hr.below hB0) (by omega)) rfl
    (fun j b W => ∃ v, Av W w.heap.size 3 [.int .i64 (mBrI ((mLv l).take j) i : Int)] ∧ Av W (w.heap.size + 1) 22 [v] ∧ W.ownsRow (w.heap.size + 3) 25 32 v (mBr ((mLv l).take j) i).length (hcl (mBr ((mLv l).take j) i)) ∧ (∀ k, v.ownBlock = some k → k < b) ∧ Below w.heap.size w W ∧ w.heap.size + 3 ≤ b)
    ?hI (fun j b W h => by obtain ⟨v, h⟩ := h; exact ht.below h.2.2.2.2.1) ?h0 (fun v => { tmps := #[.slice A0 m c0, .int .i64 (i : Int), undef, .pointer (some ⟨w.heap.size, 0, none⟩), .slice none 0 0, .bool false, .pointer (some ⟨w.heap.size + 1, 0, none⟩), v, .int .i64 (i : Int), .bool false, .bool false, .int .i64 (i : Int), .slice A0 m c0, .int .i64 (m : Int), .bool false, .bool false, .bool false, .slice A0 m c0, .int .i64 (m : Int), .bool false, .bool false, .slice A0 m c0, .func (.func 30) #[] #[.pointer (some ⟨w.heap.size + 1 + 1, 0, none⟩)], v, undef, undef, undef, undef, undef, undef, undef, undef, undef, undef, undef, undef, undef, undef, undef, undef], defers := [] }) ?assign ?body ?done)
  case hI =>
    rintro j b W W' row ⟨v, i1, i2, i3, i4, i5, i6⟩ hg hrow
    have hrow' : ∀ r, row = some r → ∃ o : Obj, W.heap[r]? = some o ∧ o.isCells = false := fun r e => (hrow r e).2
    refine ⟨v, i1.grown hg hrow', i2.grown hg hrow', i3.kept hg ?_, i4, i5.grown hg i5.size (fun k e => by have := (hrow k e).1; omega), i6⟩
    rcases i3.2 with ⟨rfl, _⟩ | ⟨g, cap, cur, rfl, _, hgb, _⟩
    · exact .inl rfl
    · refine .inr fun e' => ?_
      obtain ⟨o, ho, hc⟩ := hrow' g e'.symm
      rw [hgb] at ho; cases ho; cases hc
  case h0 =>
    intro b hb
    exact ⟨_, by rw [List.take_zero, mBrI]; exact hA0, hA1, by rw [List.take_zero, mBr]; exact World.ownsRow_nil _ _ _ _, fun k hk => (by cases hk), hB0, by omega⟩
  case assign =>
    intro l' v W K hK
    gi_wp2
    exact hK
  case body =>
    rintro l' j x b W A c hx ⟨v, i1, i2, i3, i4, i5, i6⟩ ⟨hrx, hfx⟩ hxc hbW
    obtain ⟨hx32, hx0, hx4⟩ := mLv_mem l h32 x (List.mem_of_getElem? hx)
    have hj : j < (mLv l).length := (List.getElem?_eq_some_iff.1 hx).1
    have htk : (mLv l).take (j + 1) = (mLv l).take j ++ [x] := by rw [List.take_add_one, hx]; rfl
    obtain ⟨n, hn⟩ : ∃ n, x.length = n := ⟨_, rfl⟩
    obtain ⟨bb, off, rfl⟩ := hrx.someA (hcl_ne hx32 hx0)
    have hbb : b ≤ bb := hfx _ rfl
    have hq13 := mBr_len ((mLv l).take j) i
    rw [List.length_take] at hq13
    have hIi := mBrI_le ((mLv l).take j) i
    have hs1 : mBr ((mLv l).take (j + 1)) i = mBr ((mLv l).take j) i ++ mBr [x] (mBrI ((mLv l).take j) i) := by rw [htk, mBr_append]
    have hs2 : mBrI ((mLv l).take (j + 1)) i = mBrI [x] (mBrI ((mLv l).take j) i) := by rw [htk, mBrI_append]
    generalize hB : mBr ((mLv l).take j) i = B at *
    generalize hI2 : mBrI ((mLv l).take j) i = I at *
    obtain ⟨q, hq⟩ : ∃ q, B.length = q := ⟨_, rfl⟩
    obtain ⟨Ao, co, rfl, hco, _⟩ := own_form i3
    rw [hn] at hx0 hx4 hxc ⊢
    rw [hq] at i3 hco hq13 i2 i4
    replace hn := Lib.hid hn
    replace hq := Lib.hid hq
    by_cases h1 : 1 < n
    · have t1 : decide ((1 : Int) < (n : Int)) = true := by simp; omega
      have hIm : I < 100000 := by omega
      have HP := Lib.hid (paired_of I n (by omega) (by omega) (by omega))
      obtain ⟨y, hy⟩ : ∃ y, y = x.getD (mPr I n) [] := ⟨_, rfl⟩
      have hpn : mPr I n < n := by rw [mPr]; omega
      have hy32 : y.length = 32 := by rw [hy]; exact hx32.get _ (by rw [hn.out]; exact hpn)
      rw [mBr, if_pos (by rw [hn.out]; exact h1), mBr, hn.out, ← hy] at hs1
      rw [mBrI, if_pos (by rw [hn.out]; exact h1), mBrI] at hs2
      have HP2 : ∀ w, Calls Tryd.prog 27 #[.int .i64 (I : Int), .int .i64 (n : Int)] w fun e w' => e = .returned (.int .i64 (mPr I n : Int)) ∧ w' = w := HP.out
      replace HP2 := Lib.hid HP2
      clear HP
      have hry := Lib.hid (fun w' (hE : Ext W.drew w') => hy ▸ (hrx.below hE.drew).hash hx32 (mPr I n) (by rw [hn.out]; exact hpn))
      replace hy := Lib.hid hy
      obtain ⟨P, hP⟩ : ∃ P, P = mPr I n := ⟨_, rfl⟩
      rw [← hP] at hpn HP2 hry
      replace hP := Lib.hid hP
      have p0 : 0 ≤ (P : Int) := by omega
      have p1 : (P : Int) < (n : Int) := by omega
      gi_wp2
      refine wpIn_region_relT 9 [(8, OneW (y.map bv))] Ext (by kernel_rfl) (by kernel_rfl) (by kernel_rfl) (by kernel_rfl) (by kernel_rfl) (by kernel_rfl) Ext.refl Ext.trans (by intro p hp v w w' hR; simp only [List.mem_singleton] at hp; subst hp; exact OneW.mono hR) ?_
      refine relPure Ext.refl rfl rfl rfl rfl (c := .slice Ao q co) (fun w hw => by have := (i2.below hw.drew).cell 0 _ rfl; go_simp; first | done | rfl) (by simp only [List.set_cons_succ, List.set_cons_zero]; rfl) ?_
      refine relMove Ext.refl rfl rfl rfl rfl _ (.inl rfl) (by conv => lhs; whnf) (by simp only [List.set_cons_succ, List.set_cons_zero]; rfl) ?_
      refine relPure Ext.refl rfl rfl rfl rfl (c := .int .i64 (I : Int)) (fun w hw => by have := (i1.below hw.drew).cell 0 _ rfl; go_simp; first | done | rfl) (by simp only [List.set_cons_succ, List.set_cons_zero]; rfl) ?_
      refine relMove Ext.refl rfl rfl rfl rfl _ (.inl rfl) (by conv => lhs; whnf) (by simp only [List.set_cons_succ, List.set_cons_zero]; rfl) ?_
      refine relPure Ext.refl rfl rfl rfl rfl (fun w _ => by go_simp; first | done | rfl) (by simp only [List.set_cons_succ, List.set_cons_zero]; rfl) ?_
      refine relCall1 rfl rfl rfl rfl (c := .int .i64 (P : Int)) 27 #[.int .i64 (I : Int), .int .i64 (n : Int)] (fun w => by go_simp) (fun w hw => (HP2.out w).mono ?_) (by simp only [List.set_cons_succ, List.set_cons_zero]; rfl) ?_
      · rintro e w' ⟨rfl, rfl⟩
        exact ⟨rfl, Ext.refl _⟩
      refine relPure Ext.refl rfl rfl rfl rfl (fun w _ => by go_simp; first | done | rfl) (by simp only [List.set_cons_succ, List.set_cons_zero]; rfl) ?_
      refine relPure Ext.refl rfl rfl rfl rfl (c := .agg (hcs y)) (fun w hw => exec_load_mid _ _ rfl bb (off + P * 32) rfl (y.map bv) _ (hry.out w hw) Tryd.underlying25 rfl (by rw [List.length_map, hy32]; kernel_rfl)) (by simp only [List.set_cons_succ, List.set_cons_zero]; rfl) ?_
      refine relWord _ rfl (fun w hw => fill_none rfl (relOp_yes rfl ?_)) ?_
      · rw [exec_buildH y hy32 _ rfl (by rw [eval_evL]; rfl)]
        exact ⟨(Below.refl _ _).alloc (Nat.le_refl _) _, _, rfl, Av.rd (t := 25) (heap_alloc_new _ _)⟩
      refine relEnd fun w2 hw2 => fill_take rfl rfl fun v hv => fill_end ?_
      simp only [List.set_cons_succ, List.set_cons_zero, List.drop_succ_cons, List.drop_zero]
      obtain ⟨D, rfl, hrb⟩ := hv
      rw [← hcl_one] at hrb
      have hE := hw2.drew
      have k2 : KeepsFrom W0.heap.size W w2 := keepsFrom_below hE
      have o2 := own_below i3 hE
      have j1 := i1.below hE
      have j2 := i2.below hE
      have r2 := hrx.below hE
      have b2 := i5.trans (hE.mono i5.size)
      have ol2 := (World.ownsRow.lt o2)
      have hle : (q + 1) * 32 ≤ 140737488355328 := by omega
      go_wp2_with (at_builtin; refine wpList_appH o2 (Below.refl (w.heap.size + 3) w2) (by have := j2.lt; have := b2.size; have := hE.size; omega) (All32.one hy32) 1 1 hrb rfl hle rfl (.tmp 27) (.tmp 35) rfl rfl rfl ?_; intro v3 w3 o3 bo3 z3 gr3 ob3; obtain ⟨A3, c3, rfl, hc3, _⟩ := own_form o3; have q1 := j1.same (gr3.block _ j1.lt (fun e => by have := ol2 _ e.symm; omega)); have q2 := j2.same (gr3.block _ j2.lt (fun e => by have := ol2 _ e.symm; omega)); have qc := q2.cell 0 _ rfl; have qf := frozen_of_row _ _ 0 _ _ q2)
      unfold nrm
      have hw0 : w3.heap.size ≤ w3.heap.size := Nat.le_refl _
      have s1 := q1.other ⟨w.heap.size + 1, 0, none⟩ (.slice A3 (q + 1) c3) (by simp only; omega)
      have s2 := q2.set 0 (.slice A3 (q + 1) c3)
      have own3lt := World.ownsRow.lt o3
      have o4 : (w3.setCell ⟨w.heap.size + 1, 0, none⟩ (.slice A3 (q + 1) c3)).ownsRow (w.heap.size + 3) 25 32 (.slice A3 (q + 1) c3) (q + 1) (hcl (B ++ [y])) := by
        refine o3.kept (grownBy_setCell' w3 (w.heap.size + 1) _) ?_
        cases A3 with
        | none => exact .inl rfl
        | some a3 => refine .inr fun e => ?_; have := (own3lt a3.block rfl).1; simp [Value.ownBlock] at e; omega
      have bb2 : bb < w2.heap.size := by
        rcases r2 with h | ⟨b', off', hA, hc⟩
        · exact absurd h (hcl_ne hx32 (by rw [hn.out]; omega))
        · cases hA
          have hl := hcl_length hx32
          have h0 := hc 0 _ (List.getElem?_eq_getElem (by rw [hl, hn.out]; omega))
          exact World.block_lt_of_cell? w2 _ h0
      have hbo : ∀ k, (Value.slice Ao q co).ownBlock = some k → k ≠ bb := fun k hk => by have := i4 k hk; omega
      have r3 : Rd w3 (some ⟨bb, off, none⟩) (hcl x) := by
        rcases r2 with h | ⟨b', off', hA, hc⟩
        · exact .inl h
        · cases hA
          exact .inr ⟨_, _, rfl, fun j' u hu => (World.cell?_of_block (gr3.block bb bb2 (fun e => hbo bb e.symm rfl))).trans (hc j' u hu)⟩
      have r4 := r3.setOther ⟨w.heap.size + 1, 0, none⟩ (.slice A3 (q + 1) c3) (by simp only; omega)
      have kf3 : KeepsFrom W0.heap.size W w3 := by
        refine k2.trans ⟨z3, fun k' o' hk' ho' hc' => ?_⟩
        have hlt := (Array.getElem?_eq_some_iff.1 ho').1
        refine (gr3.block k' hlt fun e => ?_).trans ho'
        rcases o2.2 with ⟨e2, _⟩ | ⟨g, cap, cur, e2, _, hgb, _⟩
        · rw [e2] at e; cases e
        · rw [e2] at e
          obtain rfl : k' = g := by simpa [Value.ownBlock] using e
          rw [hgb] at ho'; cases ho'; cases hc'
      have b3 : Below w.heap.size w w3 := b2.trans (bo3.mono (by omega))
      have b4 := b3.setCell (p := ⟨w.heap.size + 1, 0, none⟩) (by simp only; omega) (.slice A3 (q + 1) c3)
      have kf4 := kf3.trans ((KeepsOthers.setCell w3 ⟨w.heap.size + 1, 0, none⟩ (.slice A3 (q + 1) c3)).from W0.heap.size)
      have z4 : (w3.setCell ⟨w.heap.size + 1, 0, none⟩ (.slice A3 (q + 1) c3)).heap.size = w3.heap.size := by simp
      have hzz : W.heap.size ≤ w3.heap.size := kf3.size
      have hob : ∀ k, (Value.slice A3 (q + 1) c3).ownBlock = some k → k < w3.heap.size := fun k hk => (own3lt k hk).2
      clear q1 q2 qc qf o3 o2 j1 j2 r2 r3 b2 b3 kf3 k2
      generalize w3.setCell ⟨w.heap.size + 1, 0, none⟩ (.slice A3 (q + 1) c3) = w4 at *
      have c1 := s1.cell 0 _ rfl
      have f1 := frozen_of_row _ _ 0 _ _ s1
      have d1 : (I : Int) / 2 = ((I / 2 : Nat) : Int) := by omega
      obtain ⟨I2, hI3⟩ : ∃ I2, I / 2 = I2 := ⟨_, rfl⟩
      rw [hI3] at d1 hs2
      gi_wp2
      refine ⟨kf4.trans ((KeepsOthers.setCell _ _ _).from _), r4.setOther _ _ (by simp only; omega), .slice A3 (q + 1) c3, ?_, s2.other _ _ (by simp only; omega), ?_, ?_, b4.setCell (by simp only; omega) _, ?_⟩
      · rw [hs2]; exact s1.set 0 _
      · rw [hs1, List.length_append, hq.out]
        refine o4.kept (grownBy_setCell' w4 w.heap.size _) ?_
        cases A3 with
        | none => exact .inl rfl
        | some a3 => refine .inr fun e => ?_; have := (own3lt a3.block rfl).1; simp [Value.ownBlock] at e; omega
      · intro k hk; have := hob k hk; simp; omega
      · simp; omega
    · have t1 : decide ((1 : Int) < (n : Int)) = false := by simp; omega
      rw [mBr, if_neg (by rw [hn.out]; exact h1), mBr, List.append_nil] at hs1
      rw [mBrI, if_neg (by rw [hn.out]; exact h1), mBrI] at hs2
      gi_wp2
      refine ⟨KeepsFrom.refl _ _, hrx, _, by rw [hs2]; exact i1, i2, by rw [hs1, hq.out]; exact i3, fun k hk => Nat.lt_of_lt_of_le (i4 k hk) hbW, i5, by omega⟩
  case done =>
    rintro D W hD ⟨v, i1, i2, i3, _, i5, _⟩ hK
    rw [List.take_of_length_le (Nat.le_refl _)] at i3
    obtain ⟨Ao, co, rfl, hco, _⟩ := own_form i3
    have hc := i2.cell 0 _ rfl
    obtain ⟨q, hq⟩ : ∃ q, (mBr (mLv l) i).length = q := ⟨_, rfl⟩
    rw [hq] at i3 hc
    replace hq := Lib.hid hq
    go_wp2
    refine ⟨by simp, .inl ⟨_, _, rfl, run_takeDeferred hK, ?_⟩⟩
    refine ⟨_, results_tmp2 rfl _ _ _, _, rfl, ?_, i5.grown (grownBy_putObj' W D (.deferred none)) i5.size (fun k e => by cases e; omega)⟩
    rw [hq.out]
    have o1 := ownsRow_putObj i3 (.deferred none) hK rfl
    refine ⟨o1.1, o1.2.imp id ?_⟩
    rintro ⟨g, cap, cur, e1, e2, e3⟩
    exact ⟨g, cap, cur, e1, by omega, e3⟩
end Go.Proofs.YtngindljhlbglaaDoor
