/- The law HeaderChain: the walk. -/
import Derived.Test.YtjgdmpbaikhflaaDoorAw7
import Derived.Test.YtjgdmpbaikhflaaDoorBt
namespace Go.Proofs.YtjgdmpbaikhflaaDoor
open Go.RowKit
theorem size_hd : (Tryd.prog.info? 26).map (·.size) = some 68 := by kernel_rfl
theorem slHd_h (w : World) (A : Option Addr) (n c : Nat) (kh : IntKind) (h : Int) (h0 : 0 ≤ h) (h2 : h ≤ c) :
    (Instr.slice 34 (.slice A n c) none (some (.int kh h)) none).run Tryd.prog w = .ok (.slice A h.toNat c) w :=
  run_slice_h_sub w _ _ A n c 68 Tryd.underlying34 size_hd kh h h0 h2
attribute [local go_sem high] slHd_h
theorem exec_min {P : Program} {w : World} {o : Oper} {ρ : Operand → Value} (x y : Operand) (ats : Array TypeId) {X Y Z : Int} (ho : o.op = .call { callee := .builtin .min, args := #[x, y], argTypes := ats }) (hx : ρ x = .int .i64 X) (hy : ρ y = .int .i64 Y) (hz : min X Y = Z) : (execOp ρ o).run P w = .ok (.value (.int .i64 Z)) w := by
  unfold execOp
  simp only [ho, resolve, invoke, builtin, Sem.run_bind, Sem.run_pure, Result.andThen_ok, List.map_toArray, List.map_cons, List.map_nil, hx, hy, run_min_i64 _ _ X Y Z hz]
theorem hdl_take {l : List Hd} (h : OkHds l) (m : Nat) : hdl (l.take m) = (hdl l).take (m * 68) := by
  have h2 : OkHds (l.take m) := fun e he => h e (List.mem_of_mem_take he)
  have e : hdl l = hdl (l.take m) ++ hdl (l.drop m) := by rw [hdl, hdl, hdl, ← List.flatMap_append, List.take_append_drop]
  by_cases hm : m ≤ l.length
  · have hl : (hdl (l.take m)).length = m * 68 := by rw [hdl_len h2, List.length_take, Nat.min_eq_left hm]
    generalize hdl (l.take m) = X at *
    rw [e, List.take_append_of_le_length (by omega), List.take_of_length_le (by omega)]
  · rw [List.take_of_length_le (by omega), List.take_of_length_le (by rw [hdl_len h]; omega)]
theorem RdHds.take {w : World} {A : Option Addr} {l : List Hd} (h : RdHds w A l) (m : Nat) : RdHds w A (l.take m) :=
  ⟨by rw [hdl_take h.2]; exact h.1.take _, fun e he => h.2 e (List.mem_of_mem_take he)⟩
theorem linkB_zero (l : List Hd) : linkB l 0 = false := by simp [linkB]
theorem linkB_take {l : List Hd} {m i : Nat} (h : i < m) (_ : m ≤ l.length) : linkB (l.take m) i = linkB l i := by
  unfold linkB
  rw [List.getD_eq_getElem?_getD, List.getD_eq_getElem?_getD, List.getD_eq_getElem?_getD, List.getD_eq_getElem?_getD, List.getElem?_take_of_lt h, List.getElem?_take_of_lt (by omega)]
theorem mLinked_spec (l : List Hd) : mLinked l ≤ l.length ∧ (∀ i, i < mLinked l → linkB l i = false) ∧ (mLinked l < l.length → linkB l (mLinked l) = true) := by
  refine ⟨mLinked_le l, ?_⟩
  unfold mLinked
  cases h : (List.range l.length).find? (linkB l) with
  | none =>
    rw [List.find?_range_eq_none] at h
    exact ⟨fun i hi => by simpa using h i hi, fun hi => by dsimp only at hi; omega⟩
  | some i =>
    rw [List.find?_range_eq_some] at h
    exact ⟨fun j hj => by simpa using h.2.2 j hj, fun _ => h.1⟩
theorem mLinked_of {l : List Hd} {n : Nat} (h1 : n ≤ l.length) (h2 : ∀ i, i < n → linkB l i = false) (h3 : n < l.length → linkB l n = true) : mLinked l = n := by
  obtain ⟨g1, g2, g3⟩ := mLinked_spec l
  rcases Nat.lt_trichotomy (mLinked l) n with h | h | h
  · have := g3 (by omega)
    rw [h2 _ h] at this
    cases this
  · exact h
  · have := h3 (by omega)
    rw [g2 _ h] at this
    cases this
theorem mLinked_take {l : List Hd} {m : Nat} (hm : m ≤ l.length) : mLinked (l.take m) = min m (mLinked l) := by
  obtain ⟨g1, g2, g3⟩ := mLinked_spec l
  have hl : (l.take m).length = m := by rw [List.length_take, Nat.min_eq_left hm]
  refine mLinked_of (by rw [hl]; omega) (fun i hi => ?_) (fun hi => ?_)
  · rw [linkB_take (by omega) hm]
    exact g2 i (by omega)
  · rw [hl] at hi
    rw [linkB_take (by omega) hm, show min m (mLinked l) = mLinked l by omega]
    exact g3 (by omega)
theorem mLinked_pos {l : List Hd} (h : 0 < l.length) : 0 < mLinked l := by
  obtain ⟨g1, g2, g3⟩ := mLinked_spec l
  rcases Nat.eq_zero_or_pos (mLinked l) with h0 | h0
  · have := g3 (by omega)
    rw [h0, linkB_zero] at this
    cases this
  · exact h0
theorem linkB_at {l : List Hd} {i : Nat} {x y : Hd} (h0 : 0 < i) (hx : l[i]? = some x) (hy : l[i - 1]? = some y) : linkB l i = !(x.prev == hdId y) := by
  unfold linkB
  rw [decide_eq_true h0, Bool.true_and, List.getD_eq_getElem?_getD, List.getD_eq_getElem?_getD, hx, hy]
  rfl
set_option maxRecDepth 10000 in
set_option maxHeartbeats 2000000 in
theorem chain_long (A : Option Addr) (n c : Nat) (h30 : 30 < n) (kk : Int) (w : World) (ht : Tabs w) : Calls Tryd.prog 4 #[.slice A n c, .int .i64 kk] w fun e w' => e = .returned (.bool true) ∧ Below w.heap.size w w' := by
  have HA := Lib.hid (awake7 w ht)
  have t1 : decide ((30 : Int) < (n : Int)) = true := by simp; omega
  go_enter Tryd.func4, Tryd.ntmps4
  go_upto_region 2 with (go_at_call 9; refine (HA.out).mono ?_; rintro e w1 ⟨rfl, b1⟩)
  go_wp2
  go_ret
  exact ⟨rfl, b1⟩
set_option maxRecDepth 10000 in
set_option maxHeartbeats 4000000 in
theorem chain_none (A : Option Addr) (c : Nat) (kk : Int) (w : World) (ht : Tabs w) : Calls Tryd.prog 4 #[.slice A 0 c, .int .i64 kk] w fun e w' => e = .returned (.bool true) ∧ Below w.heap.size w w' := by
  have HA := Lib.hid (awake7 w ht)
  have HL := fun w' (t : Tabs w') => HdLinked [] A 0 c rfl (by omega) w' ⟨Rd.nil _ _, fun e he => by cases he⟩ t
  rw [show mLinked [] = 0 from rfl] at HL
  replace HL := Lib.hid HL
  go_enter Tryd.func4, Tryd.ntmps4
  go_upto_region 2 with (go_at_call 9; refine (HA.out).mono ?_; rintro e w1 ⟨rfl, b1⟩)
  go_upto_region 7 with (go_at_call 13; refine (HL.out w1 (ht.below b1)).mono ?_; rintro e w2 ⟨rfl, b2⟩)
  have bw2 := b1.trans (b2.mono b1.size)
  go_wp2
  go_loopw [7] (fun i wr => i = .int .i64 1 ∧ Below w.heap.size w wr) (fun _ _ => 0)
  case atStart => exact ⟨rfl, bw2⟩
  case round =>
  obtain ⟨rfl, bw3⟩ := hrel
  go_upto_region 15 with fail
  refine wp_region_relT 31 [] Ext (by kernel_rfl) (by kernel_rfl) (by kernel_rfl) (by kernel_rfl) (by kernel_rfl) Ext.refl Ext.trans (by intro p hp; cases hp) ?_
  refine relMove Ext.refl rfl rfl rfl rfl _ (.inl rfl) (by conv => lhs; whnf) (by simp only [List.set_cons_succ, List.set_cons_zero]; rfl) ?_
  refine relMove Ext.refl rfl rfl rfl rfl _ (.inl rfl) (by conv => lhs; whnf) (by simp only [List.set_cons_succ, List.set_cons_zero]; rfl) ?_
  refine relMove Ext.refl rfl rfl rfl rfl _ (.inl rfl) (by conv => lhs; whnf) (by simp only [List.set_cons_succ, List.set_cons_zero]; rfl) ?_
  refine relMove Ext.refl rfl rfl rfl rfl _ (.inl rfl) (by conv => lhs; whnf) (by simp only [List.set_cons_succ, List.set_cons_zero]; rfl) ?_
  refine relPure Ext.refl rfl rfl rfl rfl (fun w _ => by go_simp; first | done | rfl) (by simp only [List.set_cons_succ, List.set_cons_zero]; rfl) ?_
  refine relPure Ext.refl rfl rfl rfl rfl (c := .bool true) (fun w _ => by go_simp; first | done | rfl | omega) (by simp only [List.set_cons_succ, List.set_cons_zero]; rfl) ?_
  refine relMove Ext.refl rfl rfl rfl rfl _ (.inl rfl) (by conv => lhs; whnf) (by simp only [List.set_cons_succ, List.set_cons_zero]; rfl) ?_
  refine relSkip rfl rfl rfl rfl (by simp only [List.set_cons_succ, List.set_cons_zero]; rfl) ?_
  refine relSkip rfl rfl rfl rfl (by simp only [List.set_cons_succ, List.set_cons_zero]; rfl) ?_
  refine relSkip rfl rfl rfl rfl (by simp only [List.set_cons_succ, List.set_cons_zero]; rfl) ?_
  refine relSkip rfl rfl rfl rfl (by simp only [List.set_cons_succ, List.set_cons_zero]; rfl) ?_
  refine relSkip rfl rfl rfl rfl (by simp only [List.set_cons_succ, List.set_cons_zero]; rfl) ?_
  refine relSkip rfl rfl rfl rfl (by simp only [List.set_cons_succ, List.set_cons_zero]; rfl) ?_
  refine relSkip rfl rfl rfl rfl (by simp only [List.set_cons_succ, List.set_cons_zero]; rfl) ?_
  refine relSkip rfl rfl rfl rfl (by simp only [List.set_cons_succ, List.set_cons_zero]; rfl) ?_
  refine relSkip rfl rfl rfl rfl (by simp only [List.set_cons_succ, List.set_cons_zero]; rfl) ?_
  refine relSkip rfl rfl rfl rfl (by simp only [List.set_cons_succ, List.set_cons_zero]; rfl) ?_
  refine relSkip rfl rfl rfl rfl (by simp only [List.set_cons_succ, List.set_cons_zero]; rfl) ?_
  refine relSkip rfl rfl rfl rfl (by simp only [List.set_cons_succ, List.set_cons_zero]; rfl) ?_
  refine relPick Ext.refl rfl rfl rfl rfl _ _ _ rfl rfl (by conv => lhs; whnf) (by simp only [List.set_cons_succ, List.set_cons_zero]; rfl) ?_
  refine relPick Ext.refl rfl rfl rfl rfl _ _ _ rfl rfl (by conv => lhs; whnf) (by simp only [List.set_cons_succ, List.set_cons_zero]; rfl) ?_
  refine relMove Ext.refl rfl rfl rfl rfl _ (.inl rfl) (by conv => lhs; whnf) (by simp only [List.set_cons_succ, List.set_cons_zero]; rfl) ?_
  refine relMove Ext.refl rfl rfl rfl rfl _ (.inl rfl) (by conv => lhs; whnf) (by simp only [List.set_cons_succ, List.set_cons_zero]; rfl) ?_
  refine relMove Ext.refl rfl rfl rfl rfl _ (.inl rfl) (by conv => lhs; whnf) (by simp only [List.set_cons_succ, List.set_cons_zero]; rfl) ?_
  refine relPure Ext.refl rfl rfl rfl rfl (c := .slice A 0 c) (fun w _ => by go_simp; first | done | rfl) (by simp only [List.set_cons_succ, List.set_cons_zero]; rfl) ?_
  refine relCall1 rfl rfl rfl rfl (c := .int .i64 0) 13 #[.slice A 0 c] (fun w => by go_simp) (fun w hw => (HL.out w (ht.below (bw3.trans (hw.drew.mono bw3.size)))).mono ?_) (by simp only [List.set_cons_succ, List.set_cons_zero]; rfl) ?_
  · rintro e w' ⟨rfl, hb⟩
    exact ⟨rfl, hb⟩
  refine relMove Ext.refl rfl rfl rfl rfl _ (.inl rfl) (by conv => lhs; whnf) (by simp only [List.set_cons_succ, List.set_cons_zero]; rfl) ?_
  refine relMove Ext.refl rfl rfl rfl rfl _ (.inl rfl) (by conv => lhs; whnf) (by simp only [List.set_cons_succ, List.set_cons_zero]; rfl) ?_
  refine relPure Ext.refl rfl rfl rfl rfl (c := .int .i64 0) (fun w _ => exec_min _ _ _ rfl rfl rfl rfl) (by simp only [List.set_cons_succ, List.set_cons_zero]; rfl) ?_
  refine relPure Ext.refl rfl rfl rfl rfl (c := .bool true) (fun w _ => by go_simp; first | done | rfl) (by simp only [List.set_cons_succ, List.set_cons_zero]; rfl) ?_
  refine relPick Ext.refl rfl rfl rfl rfl _ _ _ rfl rfl (by conv => lhs; whnf) (by simp only [List.set_cons_succ, List.set_cons_zero]; rfl) ?_
  refine relEnd fun w4 hw4 => fill_end ?_
  simp only [List.drop_succ_cons, List.drop_zero]
  go_wp2
  go_ret
  exact ⟨rfl, bw3.trans (hw4.drew.mono bw3.size)⟩
set_option maxRecDepth 10000 in
set_option maxHeartbeats 8000000 in
theorem chain_some (l : List Hd) (A : Option Addr) (n c : Nat) (hn : l.length = n) (hc : n ≤ c) (h30 : n ≤ 30) (h0 : 0 < n) (kk : Int) (w : World) (hr : RdHds w A l) (ht : Tabs w) : Calls Tryd.prog 4 #[.slice A n c, .int .i64 kk] w fun e w' => e = .returned (.bool true) ∧ Below w.heap.size w w' := by
  have HA := Lib.hid (awake7 w ht)
  have t1 : decide ((30 : Int) < (n : Int)) = false := by simp; omega
  have HL := fun w' (r : RdHds w' A l) (t : Tabs w') => HdLinked l A n c hn (by omega) w' r t
  obtain ⟨q, m, hq, hq0, hqi, hqt, hm⟩ := and_ffff_at kk n h0
  have HM := fun w' (r : RdHds w' A (l.take m)) (t : Tabs w') => HdLinked (l.take m) A m c (by rw [List.length_take, hn]; omega) (by omega) w' r t
  rw [mLinked_take (by omega)] at HM
  obtain ⟨g1, g2, g3⟩ := mLinked_spec l
  have g4 := mLinked_pos (l := l) (by omega)
  rw [hn] at g1 g3
  have HI := fun (x : Hd) (hx : x.ok) (w' : World) (t : Tabs w') => HdId x hx w' t
  generalize mLinked l = N at *
  obtain ⟨b, off, rfl⟩ := hr.adr (by omega)
  have t2 : decide ((N : Int) < 0) = false := decide_eq_false (by omega)
  have t3 : decide ((n : Int) < (N : Int)) = false := by simp; omega
  have t4 : ((N : Int) == 0) = false := by simp; omega
  have t5 : ((n : Int) == 0) = false := by simp; omega
  have t6 : decide ((0 : Int) < (n : Int)) = true := by simp; omega
  have m0 : 0 ≤ (m : Int) := by omega
  have m1 : (m : Int) ≤ (c : Int) := by omega
  obtain ⟨R, hR⟩ : ∃ R : Nat, R = min m N := ⟨_, rfl⟩
  have hmin : min (m : Int) (N : Int) = (R : Int) := by omega
  rw [← hR] at HM
  replace hR := Lib.hid hR
  replace HL := Lib.hid HL
  replace HM := Lib.hid HM
  replace HI := Lib.hid HI
  replace hn := Lib.hid hn
  replace g2 := Lib.hid g2
  replace g3 := Lib.hid g3
  replace g4 := Lib.hid g4
  replace hqi := Lib.hid hqi
  go_enter Tryd.func4, Tryd.ntmps4
  go_upto_region 2 with (go_at_call 9; refine (HA.out).mono ?_; rintro e w1 ⟨rfl, b1⟩)
  go_upto_region 7 with (go_at_call 13; refine (HL.out w1 (hr.below b1) (ht.below b1)).mono ?_; rintro e w2 ⟨rfl, b2⟩)
  have bw2 := b1.trans (b2.mono b1.size)
  go_wp2
  go_loopw [7] (fun i wr => ∃ j : Nat, 1 ≤ j ∧ j ≤ N ∧ i = .int .i64 (j : Int) ∧ Below w.heap.size w wr) (fun i _ => N - (intOf i).toNat)
  case atStart => exact ⟨1, by omega, by have := g4.out; omega, rfl, bw2⟩
  case round =>
    clear bw2 b2 b1
    obtain ⟨j, hj1, hj, rfl, bw⟩ := hrel
    by_cases hlt : j < N
    · have t7 : decide ((j : Int) < (N : Int)) = true := by simp; omega
      obtain ⟨x, hx⟩ : ∃ x, l[j]? = some x := ⟨_, List.getElem?_eq_getElem (by rw [hn.out]; omega)⟩
      obtain ⟨y, hy⟩ : ∃ y, l[j - 1]? = some y := ⟨_, List.getElem?_eq_getElem (by rw [hn.out]; omega)⟩
      obtain ⟨_, xok⟩ := hr.nth j x hx
      obtain ⟨_, yok⟩ := hr.nth (j - 1) y hy
      have G1 : ∀ w', Below w.heap.size w w' → w'.rangeAt b (off + j * 68 + 1) (x.prev.map bv) := fun w' h => range_prev ((hr.below h).nth j x hx).1
      have G2 : ∀ w', Below w.heap.size w w' → w'.rangeAt b (off + (j - 1) * 68) (hdc y) := fun w' h => ((hr.below h).nth (j - 1) y hy).1
      have y68 := hdc_length yok
      have xp32 : (x.prev.map bv).length = 32 := by rw [List.length_map, xok.2.1]
      have HI2 := HI.out y yok
      have hlb := linkB_at (by omega) hx hy
      rw [g2.out j hlt] at hlb
      have N1 := neqPg x.prev (hdId y) xok.2.1 (hdId_length y)
      rw [← hlb] at N1
      have j0 : 0 ≤ (j : Int) := by omega
      have j1 : (j : Int) < (n : Int) := by omega
      obtain ⟨i, hi⟩ : ∃ i, i = j - 1 := ⟨_, rfl⟩
      rw [← hi] at hy G2
      have e1 : IntKind.i64.wrap ((j : Int) - 1) = (i : Int) := by rw [IntKind.wrap_i64]; omega
      have j2 : 0 ≤ (i : Int) := by omega
      have j3 : (i : Int) < (n : Int) := by omega
      replace hi := Lib.hid hi
      replace hx := Lib.hid hx
      replace hy := Lib.hid hy
      replace G1 := Lib.hid G1
      replace G2 := Lib.hid G2
      replace HI2 := Lib.hid HI2
      replace N1 := Lib.hid N1
      replace hlb := Lib.hid hlb
      go_wp2_with fail
      refine wp_region_rel [] Ext (by kernel_rfl) (by kernel_rfl) (by kernel_rfl) Ext.refl Ext.trans (by intro p hp; cases hp) ?_
      refine relMove Ext.refl rfl rfl rfl rfl _ (.inl rfl) (by conv => lhs; whnf) (by simp only [List.set_cons_succ, List.set_cons_zero]; rfl) ?_
      refine relMove Ext.refl rfl rfl rfl rfl _ (.inl rfl) (by conv => lhs; whnf) (by simp only [List.set_cons_succ, List.set_cons_zero]; rfl) ?_
      refine relPure Ext.refl rfl rfl rfl rfl (c := .pointer (some ⟨b, off + j * 68, none⟩)) (fun w _ => by go_simp; first | done | rfl) (by simp only [List.set_cons_succ, List.set_cons_zero]; rfl) ?_
      refine relPure Ext.refl rfl rfl rfl rfl (c := .pointer (some ⟨b, off + j * 68 + 1, none⟩)) (fun w _ => by go_simp; first | done | rfl) (by simp only [List.set_cons_succ, List.set_cons_zero]; rfl) ?_
      refine relPure Ext.refl rfl rfl rfl rfl (c := .agg (hcs x.prev)) (fun w hw => exec_load_mid _ _ rfl b (off + j * 68 + 1) rfl (x.prev.map bv) _ (G1.out _ (bw.trans (hw.drew.mono bw.size))) Tryd.underlying24 rfl (by rw [xp32]; kernel_rfl)) (by simp only [List.set_cons_succ, List.set_cons_zero]; rfl) ?_
      refine relMove Ext.refl rfl rfl rfl rfl _ (.inl rfl) (by conv => lhs; whnf) (by simp only [List.set_cons_succ, List.set_cons_zero]; rfl) ?_
      refine relMove Ext.refl rfl rfl rfl rfl _ (.inl rfl) (by conv => lhs; whnf) (by simp only [List.set_cons_succ, List.set_cons_zero]; rfl) ?_
      refine relPure Ext.refl rfl rfl rfl rfl (c := .int .i64 (i : Int)) (fun w _ => by go_simp; first | done | rfl) (by simp only [List.set_cons_succ, List.set_cons_zero]; rfl) ?_
      refine relPure Ext.refl rfl rfl rfl rfl (c := .pointer (some ⟨b, off + i * 68, none⟩)) (fun w _ => by go_simp; first | done | rfl) (by simp only [List.set_cons_succ, List.set_cons_zero]; rfl) ?_
      refine relPure Ext.refl rfl rfl rfl rfl (c := .agg (hdc y).toArray) (fun w hw => exec_load_mid _ _ rfl b (off + i * 68) rfl (hdc y) _ (G2.out _ (bw.trans (hw.drew.mono bw.size))) Tryd.underlying26 rfl (by rw [y68]; kernel_rfl)) (by simp only [List.set_cons_succ, List.set_cons_zero]; rfl) ?_
      refine relCall1 rfl rfl rfl rfl (c := .agg (hcs (hdId y))) 12 #[.agg (hdc y).toArray] (fun w => by go_simp) (fun w hw => (HI2.out w (ht.below (bw.trans (hw.drew.mono bw.size)))).mono ?_) (by simp only [List.set_cons_succ, List.set_cons_zero]; rfl) ?_
      · rintro e w' ⟨rfl, hb⟩
        exact ⟨rfl, hb⟩
      refine relBin Ext.refl rfl rfl rfl rfl _ _ _ _ _ rfl (by conv => lhs; whnf) (by conv => lhs; whnf) (c := .bool false) (fun w => N1.out _ _ w) (by simp only [List.set_cons_succ, List.set_cons_zero]; rfl) ?_
      refine relEnd fun w4 hw4 => fill_end ?_
      have b4 := bw.trans (hw4.drew.mono bw.size)
      go_wp2
      refine ⟨⟨j + 1, by omega, by omega, by go_num, b4⟩, ?_⟩
      simp [intOf]
      omega
    · obtain rfl : j = N := by omega
      have t7 : decide ((j : Int) < (j : Int)) = false := by simp
      have t8 : decide ((0 : Int) < (n : Int)) = true := t6
      go_upto_region 15 with fail
      by_cases hjn : j = n
      · subst hjn
        refine wp_region_relT 31 [] Ext (by kernel_rfl) (by kernel_rfl) (by kernel_rfl) (by kernel_rfl) (by kernel_rfl) Ext.refl Ext.trans (by intro p hp; cases hp) ?_
        refine relMove Ext.refl rfl rfl rfl rfl _ (.inl rfl) (by conv => lhs; whnf) (by simp only [List.set_cons_succ, List.set_cons_zero]; rfl) ?_
        refine relMove Ext.refl rfl rfl rfl rfl _ (.inl rfl) (by conv => lhs; whnf) (by simp only [List.set_cons_succ, List.set_cons_zero]; rfl) ?_
        refine relMove Ext.refl rfl rfl rfl rfl _ (.inl rfl) (by conv => lhs; whnf) (by simp only [List.set_cons_succ, List.set_cons_zero]; rfl) ?_
        refine relMove Ext.refl rfl rfl rfl rfl _ (.inl rfl) (by conv => lhs; whnf) (by simp only [List.set_cons_succ, List.set_cons_zero]; rfl) ?_
        refine relPure Ext.refl rfl rfl rfl rfl (fun w _ => by go_simp; first | done | rfl) (by simp only [List.set_cons_succ, List.set_cons_zero]; rfl) ?_
        refine relPure Ext.refl rfl rfl rfl rfl (c := .bool true) (fun w _ => by go_simp; first | done | rfl | omega) (by simp only [List.set_cons_succ, List.set_cons_zero]; rfl) ?_
        refine relMove Ext.refl rfl rfl rfl rfl _ (.inl rfl) (by conv => lhs; whnf) (by simp only [List.set_cons_succ, List.set_cons_zero]; rfl) ?_
        refine relSkip rfl rfl rfl rfl (by simp only [List.set_cons_succ, List.set_cons_zero]; rfl) ?_
        refine relSkip rfl rfl rfl rfl (by simp only [List.set_cons_succ, List.set_cons_zero]; rfl) ?_
        refine relSkip rfl rfl rfl rfl (by simp only [List.set_cons_succ, List.set_cons_zero]; rfl) ?_
        refine relSkip rfl rfl rfl rfl (by simp only [List.set_cons_succ, List.set_cons_zero]; rfl) ?_
        refine relSkip rfl rfl rfl rfl (by simp only [List.set_cons_succ, List.set_cons_zero]; rfl) ?_
        refine relSkip rfl rfl rfl rfl (by simp only [List.set_cons_succ, List.set_cons_zero]; rfl) ?_
        refine relSkip rfl rfl rfl rfl (by simp only [List.set_cons_succ, List.set_cons_zero]; rfl) ?_
        refine relSkip rfl rfl rfl rfl (by simp only [List.set_cons_succ, List.set_cons_zero]; rfl) ?_
        refine relSkip rfl rfl rfl rfl (by simp only [List.set_cons_succ, List.set_cons_zero]; rfl) ?_
        refine relSkip rfl rfl rfl rfl (by simp only [List.set_cons_succ, List.set_cons_zero]; rfl) ?_
        refine relSkip rfl rfl rfl rfl (by simp only [List.set_cons_succ, List.set_cons_zero]; rfl) ?_
        refine relSkip rfl rfl rfl rfl (by simp only [List.set_cons_succ, List.set_cons_zero]; rfl) ?_
        refine relPick Ext.refl rfl rfl rfl rfl _ _ _ rfl rfl (by conv => lhs; whnf) (by simp only [List.set_cons_succ, List.set_cons_zero]; rfl) ?_
        refine relPick Ext.refl rfl rfl rfl rfl _ _ _ rfl rfl (by conv => lhs; whnf) (by simp only [List.set_cons_succ, List.set_cons_zero]; rfl) ?_
        refine relMove Ext.refl rfl rfl rfl rfl _ (.inl rfl) (by conv => lhs; whnf) (by simp only [List.set_cons_succ, List.set_cons_zero]; rfl) ?_
        refine relMove Ext.refl rfl rfl rfl rfl _ (.inl rfl) (by conv => lhs; whnf) (by simp only [List.set_cons_succ, List.set_cons_zero]; rfl) ?_
        refine relMove Ext.refl rfl rfl rfl rfl _ (.inl rfl) (by conv => lhs; whnf) (by simp only [List.set_cons_succ, List.set_cons_zero]; rfl) ?_
        refine relPure Ext.refl rfl rfl rfl rfl (c := .slice (some ⟨b, off, none⟩) m c) (fun w _ => by go_simp; first | done | rfl) (by simp only [List.set_cons_succ, List.set_cons_zero]; rfl) ?_
        refine relCall1 rfl rfl rfl rfl (c := .int .i64 (R : Int)) 13 #[.slice (some ⟨b, off, none⟩) m c] (fun w => by go_simp) (fun w hw => (HM.out w (((hr.below (bw.trans (hw.drew.mono bw.size))).take m)) (ht.below (bw.trans (hw.drew.mono bw.size)))).mono ?_) (by simp only [List.set_cons_succ, List.set_cons_zero]; rfl) ?_
        · rintro e w' ⟨rfl, hb⟩
          exact ⟨rfl, hb⟩
        refine relMove Ext.refl rfl rfl rfl rfl _ (.inl rfl) (by conv => lhs; whnf) (by simp only [List.set_cons_succ, List.set_cons_zero]; rfl) ?_
        refine relMove Ext.refl rfl rfl rfl rfl _ (.inl rfl) (by conv => lhs; whnf) (by simp only [List.set_cons_succ, List.set_cons_zero]; rfl) ?_
        refine relPure Ext.refl rfl rfl rfl rfl (c := .int .i64 (R : Int)) (fun w _ => exec_min _ _ _ rfl rfl rfl hmin) (by simp only [List.set_cons_succ, List.set_cons_zero]; rfl) ?_
        refine relPure Ext.refl rfl rfl rfl rfl (c := .bool true) (fun w _ => by go_simp; first | done | rfl) (by simp only [List.set_cons_succ, List.set_cons_zero]; rfl) ?_
        refine relPick Ext.refl rfl rfl rfl rfl _ _ _ rfl rfl (by conv => lhs; whnf) (by simp only [List.set_cons_succ, List.set_cons_zero]; rfl) ?_
        refine relEnd fun w4 hw4 => fill_end ?_
        simp only [List.drop_succ_cons, List.drop_zero]
        go_wp2
        go_ret
        exact ⟨rfl, bw.trans (hw4.drew.mono bw.size)⟩
      · have t9 : ((j : Int) == (n : Int)) = false := by simp; omega
        obtain ⟨x, hx⟩ : ∃ x, l[j]? = some x := ⟨_, List.getElem?_eq_getElem (by rw [hn.out]; omega)⟩
        obtain ⟨y, hy⟩ : ∃ y, l[j - 1]? = some y := ⟨_, List.getElem?_eq_getElem (by rw [hn.out]; omega)⟩
        obtain ⟨_, xok⟩ := hr.nth j x hx
        obtain ⟨_, yok⟩ := hr.nth (j - 1) y hy
        have G1 : ∀ w', Below w.heap.size w w' → w'.rangeAt b (off + j * 68 + 1) (x.prev.map bv) := fun w' h => range_prev ((hr.below h).nth j x hx).1
        have G2 : ∀ w', Below w.heap.size w w' → w'.rangeAt b (off + (j - 1) * 68) (hdc y) := fun w' h => ((hr.below h).nth (j - 1) y hy).1
        have y68 := hdc_length yok
        have xp32 : (x.prev.map bv).length = 32 := by rw [List.length_map, xok.2.1]
        have HI2 := HI.out y yok
        have hlb := linkB_at (by omega) hx hy
        rw [g3.out (by omega)] at hlb
        have N1 := neqPg x.prev (hdId y) xok.2.1 (hdId_length y)
        rw [← hlb] at N1
        have j0 : 0 ≤ (j : Int) := by omega
        have j1 : (j : Int) < (n : Int) := by omega
        obtain ⟨i, hi⟩ : ∃ i, i = j - 1 := ⟨_, rfl⟩
        rw [← hi] at hy G2
        have e1 : IntKind.i64.wrap ((j : Int) - 1) = (i : Int) := by rw [IntKind.wrap_i64]; omega
        have j2 : 0 ≤ (i : Int) := by omega
        have j3 : (i : Int) < (n : Int) := by omega
        replace hi := Lib.hid hi
        replace hx := Lib.hid hx
        replace hy := Lib.hid hy
        replace G1 := Lib.hid G1
        replace G2 := Lib.hid G2
        replace HI2 := Lib.hid HI2
        replace N1 := Lib.hid N1
        replace hlb := Lib.hid hlb
        refine wp_region_relT 31 [] Ext (by kernel_rfl) (by kernel_rfl) (by kernel_rfl) (by kernel_rfl) (by kernel_rfl) Ext.refl Ext.trans (by intro p hp; cases hp) ?_
        refine relMove Ext.refl rfl rfl rfl rfl _ (.inl rfl) (by conv => lhs; whnf) (by simp only [List.set_cons_succ, List.set_cons_zero]; rfl) ?_
        refine relMove Ext.refl rfl rfl rfl rfl _ (.inl rfl) (by conv => lhs; whnf) (by simp only [List.set_cons_succ, List.set_cons_zero]; rfl) ?_
        refine relMove Ext.refl rfl rfl rfl rfl _ (.inl rfl) (by conv => lhs; whnf) (by simp only [List.set_cons_succ, List.set_cons_zero]; rfl) ?_
        refine relMove Ext.refl rfl rfl rfl rfl _ (.inl rfl) (by conv => lhs; whnf) (by simp only [List.set_cons_succ, List.set_cons_zero]; rfl) ?_
        refine relPure Ext.refl rfl rfl rfl rfl (fun w _ => by go_simp; first | done | rfl) (by simp only [List.set_cons_succ, List.set_cons_zero]; rfl) ?_
        refine relPure Ext.refl rfl rfl rfl rfl (c := .bool false) (fun w _ => by go_simp; first | done | rfl | omega) (by simp only [List.set_cons_succ, List.set_cons_zero]; rfl) ?_
        refine relMove Ext.refl rfl rfl rfl rfl _ (.inl rfl) (by conv => lhs; whnf) (by simp only [List.set_cons_succ, List.set_cons_zero]; rfl) ?_
        refine relMove Ext.refl rfl rfl rfl rfl _ (.inl rfl) (by conv => lhs; whnf) (by simp only [List.set_cons_succ, List.set_cons_zero]; rfl) ?_
        refine relMove Ext.refl rfl rfl rfl rfl _ (.inl rfl) (by conv => lhs; whnf) (by simp only [List.set_cons_succ, List.set_cons_zero]; rfl) ?_
        refine relPure Ext.refl rfl rfl rfl rfl (c := .pointer (some ⟨b, off + j * 68, none⟩)) (fun w _ => by go_simp; first | done | rfl) (by simp only [List.set_cons_succ, List.set_cons_zero]; rfl) ?_
        refine relPure Ext.refl rfl rfl rfl rfl (c := .pointer (some ⟨b, off + j * 68 + 1, none⟩)) (fun w _ => by go_simp; first | done | rfl) (by simp only [List.set_cons_succ, List.set_cons_zero]; rfl) ?_
        refine relPure Ext.refl rfl rfl rfl rfl (c := .agg (hcs x.prev)) (fun w hw => exec_load_mid _ _ rfl b (off + j * 68 + 1) rfl (x.prev.map bv) _ (G1.out _ (bw.trans (hw.drew.mono bw.size))) Tryd.underlying24 rfl (by rw [xp32]; kernel_rfl)) (by simp only [List.set_cons_succ, List.set_cons_zero]; rfl) ?_
        refine relMove Ext.refl rfl rfl rfl rfl _ (.inl rfl) (by conv => lhs; whnf) (by simp only [List.set_cons_succ, List.set_cons_zero]; rfl) ?_
        refine relMove Ext.refl rfl rfl rfl rfl _ (.inl rfl) (by conv => lhs; whnf) (by simp only [List.set_cons_succ, List.set_cons_zero]; rfl) ?_
        refine relPure Ext.refl rfl rfl rfl rfl (c := .int .i64 (i : Int)) (fun w _ => by go_simp; first | done | rfl) (by simp only [List.set_cons_succ, List.set_cons_zero]; rfl) ?_
        refine relPure Ext.refl rfl rfl rfl rfl (c := .pointer (some ⟨b, off + i * 68, none⟩)) (fun w _ => by go_simp; first | done | rfl) (by simp only [List.set_cons_succ, List.set_cons_zero]; rfl) ?_
        refine relPure Ext.refl rfl rfl rfl rfl (c := .agg (hdc y).toArray) (fun w hw => exec_load_mid _ _ rfl b (off + i * 68) rfl (hdc y) _ (G2.out _ (bw.trans (hw.drew.mono bw.size))) Tryd.underlying26 rfl (by rw [y68]; kernel_rfl)) (by simp only [List.set_cons_succ, List.set_cons_zero]; rfl) ?_
        refine relCall1 rfl rfl rfl rfl (c := .agg (hcs (hdId y))) 12 #[.agg (hdc y).toArray] (fun w => by go_simp) (fun w hw => (HI2.out w (ht.below (bw.trans (hw.drew.mono bw.size)))).mono ?_) (by simp only [List.set_cons_succ, List.set_cons_zero]; rfl) ?_
        · rintro e w' ⟨rfl, hb⟩
          exact ⟨rfl, hb⟩
        refine relBin Ext.refl rfl rfl rfl rfl _ _ _ _ _ rfl (by conv => lhs; whnf) (by conv => lhs; whnf) (c := .bool true) (fun w => N1.out _ _ w) (by simp only [List.set_cons_succ, List.set_cons_zero]; rfl) ?_
        refine relPick Ext.refl rfl rfl rfl rfl _ _ _ rfl rfl (by conv => lhs; whnf) (by simp only [List.set_cons_succ, List.set_cons_zero]; rfl) ?_
        refine relPick Ext.refl rfl rfl rfl rfl _ _ _ rfl rfl (by conv => lhs; whnf) (by simp only [List.set_cons_succ, List.set_cons_zero]; rfl) ?_
        refine relMove Ext.refl rfl rfl rfl rfl _ (.inl rfl) (by conv => lhs; whnf) (by simp only [List.set_cons_succ, List.set_cons_zero]; rfl) ?_
        refine relMove Ext.refl rfl rfl rfl rfl _ (.inl rfl) (by conv => lhs; whnf) (by simp only [List.set_cons_succ, List.set_cons_zero]; rfl) ?_
        refine relMove Ext.refl rfl rfl rfl rfl _ (.inl rfl) (by conv => lhs; whnf) (by simp only [List.set_cons_succ, List.set_cons_zero]; rfl) ?_
        refine relPure Ext.refl rfl rfl rfl rfl (c := .slice (some ⟨b, off, none⟩) m c) (fun w _ => by go_simp; first | done | rfl) (by simp only [List.set_cons_succ, List.set_cons_zero]; rfl) ?_
        refine relCall1 rfl rfl rfl rfl (c := .int .i64 (R : Int)) 13 #[.slice (some ⟨b, off, none⟩) m c] (fun w => by go_simp) (fun w hw => (HM.out w (((hr.below (bw.trans (hw.drew.mono bw.size))).take m)) (ht.below (bw.trans (hw.drew.mono bw.size)))).mono ?_) (by simp only [List.set_cons_succ, List.set_cons_zero]; rfl) ?_
        · rintro e w' ⟨rfl, hb⟩
          exact ⟨rfl, hb⟩
        refine relMove Ext.refl rfl rfl rfl rfl _ (.inl rfl) (by conv => lhs; whnf) (by simp only [List.set_cons_succ, List.set_cons_zero]; rfl) ?_
        refine relMove Ext.refl rfl rfl rfl rfl _ (.inl rfl) (by conv => lhs; whnf) (by simp only [List.set_cons_succ, List.set_cons_zero]; rfl) ?_
        refine relPure Ext.refl rfl rfl rfl rfl (c := .int .i64 (R : Int)) (fun w _ => exec_min _ _ _ rfl rfl rfl hmin) (by simp only [List.set_cons_succ, List.set_cons_zero]; rfl) ?_
        refine relPure Ext.refl rfl rfl rfl rfl (c := .bool true) (fun w _ => by go_simp; first | done | rfl) (by simp only [List.set_cons_succ, List.set_cons_zero]; rfl) ?_
        refine relPick Ext.refl rfl rfl rfl rfl _ _ _ rfl rfl (by conv => lhs; whnf) (by simp only [List.set_cons_succ, List.set_cons_zero]; rfl) ?_
        refine relEnd fun w4 hw4 => fill_end ?_
        simp only [List.drop_succ_cons, List.drop_zero]
        go_wp2
        go_ret
        exact ⟨rfl, bw.trans (hw4.drew.mono bw.size)⟩
theorem law_HeaderChain (l : List Hd) (A : Option Addr) (n c : Nat) (hn : l.length = n) (hc : n ≤ c) (kk : Int) (w : World) (hr : RdHds w A l) (ht : Tabs w) : Calls Tryd.prog 4 #[.slice A n c, .int .i64 kk] w fun e w' => e = .returned (.bool true) ∧ Below w.heap.size w w' := by
  by_cases h30 : n ≤ 30
  · by_cases h0 : n = 0
    · subst h0
      exact chain_none A c kk w ht
    · exact chain_some l A n c hn hc h30 (by omega) kk w hr ht
  · exact chain_long A n c (by omega) kk w ht
end Go.Proofs.YtjgdmpbaikhflaaDoor
