/- tree.Node, Best, Above, Common, Line, Tips. -/
import Derived.Test.YtijnkieakenipaaDoorTr
namespace Go.Proofs.YtijnkieakenipaaDoor
open Go.RowKit
def zeroNd : Nd := ⟨List.replicate 32 0, ⟨0, List.replicate 32 0, List.replicate 32 0, 0, 0, 0⟩, 0, 0, 0⟩
def zcN : Array Value := (ndc zeroNd).toArray
theorem zcN_ne : zcN ≠ #[] := by
  intro h
  have := congrArg Array.size h
  revert this
  decide
theorem zvN (w : World) : (zeroValue 41).run Tryd.prog w = .ok (.agg zcN) w := by
  obtain ⟨i0, hi, hz⟩ := Option.map_eq_some_iff.1 (show (Tryd.prog.info? 41).map (·.zero) = some (some (.agg zcN)) by kernel_rfl)
  simp [zeroValue, typeInfo, hi, hz]
attribute [local go_sem] zvN
attribute [local simp] zcN_ne
theorem bldN (a : Act) (w' : World) (d tp pos af) : (execOp a.eval ⟨d, .build 41 #[], tp, pos, af, none⟩).run Tryd.prog w' = .ok (.value (.agg zcN)) w' := by
  kernel_rfl
theorem zcN_len : (ndc zeroNd).length = 106 := by rfl
theorem zcN_one : (ndc zeroNd).all (·.oneCell') = true := by rfl
theorem wpList_buildE {P : Program} {ty : TypeId} {parts : Array (Nat × Operand)} {ops : Array Oper} {rest : List Oper} {a : Act} {w : World} {Q : Exit → Act → World → Prop} {d tp pos af} (v : Value) (h : (execOp a.eval ⟨d, .build ty parts, tp, pos, af, none⟩).run P w = .ok (.value v) w) (k : wpList P ops Q rest (a.put d v) w) : wpList P ops Q (⟨d, .build ty parts, tp, pos, af, none⟩ :: rest) a w :=
  wpList_execW rfl h k
/-- the answer of tree.Node -/
def nodeV (ns : List Nd) (i : Int) : Value := match (if 0 ≤ i then ns[i.toNat]? else none) with
  | some n => .tuple #[.agg (ndc n).toArray, .bool true]
  | none => .tuple #[.agg zcN, .bool false]
theorem nodeV_in {ns : List Nd} {i : Nat} {n : Nd} (h : ns[i]? = some n) : nodeV ns (i : Int) = .tuple #[.agg (ndc n).toArray, .bool true] := by
  unfold nodeV
  rw [if_pos (by omega), Int.toNat_natCast, h]
theorem nodeV_out {ns : List Nd} {i : Int} (h : ¬ (0 ≤ i ∧ i < ns.length)) : nodeV ns i = .tuple #[.agg zcN, .bool false] := by
  unfold nodeV
  by_cases h0 : 0 ≤ i
  · rw [if_pos h0, List.getElem?_eq_none (by omega)]
  · rw [if_neg h0]
set_option maxRecDepth 100000 in
set_option maxHeartbeats 1000000 in
theorem TNode (v : Value) (ns : List Nd) (i : Int) (hi : -9223372036854775808 ≤ i ∧ i ≤ 9223372036854775807) (w : World) (h : TRef w v ns) : Calls Tryd.prog 14 #[v, .int .i64 i] w fun e w' => e = .returned (nodeV ns i) ∧ Below w.heap.size w w' := by
  obtain ⟨W, hW⟩ : ∃ W, W = w.alloc (.cells zcN 41) := ⟨_, rfl⟩
  obtain ⟨H, hH⟩ : ∃ H, H = w.heap.size := ⟨_, rfl⟩
  have bW : Below w.heap.size w W := by rw [hW]; exact (Below.refl _ _).alloc (Nat.le_refl _) _
  have aR : Av W H 41 (ndc zeroNd) := by rw [hW, hH]; exact heap_alloc_new _ _
  have hHw : w.heap.size ≤ H := by rw [hH]; exact Nat.le_refl _
  have HL := TLen v ns W (h.below bW)
  replace hW := Lib.hid hW
  replace hH := Lib.hid hH
  obtain ⟨Z, hZ⟩ : ∃ Z, Z = nodeV ns i := ⟨_, rfl⟩
  rw [← hZ]
  obtain ⟨n, hn⟩ : ∃ n, n = ns.length := ⟨_, rfl⟩
  rw [← hn] at HL
  replace HL := Lib.hid HL
  by_cases hin : 0 ≤ i ∧ i < ns.length
  · rcases h with ⟨rfl, rfl⟩ | ⟨R, most, A, m, c, M, rfl, T⟩
    · simp at hin; omega
    · obtain ⟨k, rfl⟩ : ∃ k : Nat, i = (k : Int) := ⟨i.toNat, by omega⟩
      obtain ⟨nd, hnd⟩ : ∃ nd, ns[k]? = some nd := ⟨_, List.getElem?_eq_getElem (by omega)⟩
      rw [nodeV_in hnd] at hZ
      subst hZ
      have hlm := T.len
      obtain ⟨b, off, rfl⟩ := T.adr (by omega)
      have T2 := T.below bW
      have c1 := T2.av.cell 1 _ rfl
      obtain ⟨rg, nok⟩ := T2.nth k nd hnd
      have l106 := Lib.hid (ndc_length nok)
      have one5 := Lib.hid (List.all_eq_true.2 (ndc_one nd))
      have t0 : decide ((k : Int) < 0) = false := by simp
      have t1 : decide ((n : Int) ≤ (k : Int)) = false := by simp; omega
      have t2 : decide (n ≤ k) = false := by simp; omega
      have m1 : (k : Int) < (m : Int) := by omega
      have m0 : (0 : Int) ≤ (k : Int) := by omega
      replace rg := Lib.hid rg
      replace hnd := Lib.hid hnd
      clear T T2 hi hin hlm nok hn
      go_enter Tryd.func14, Tryd.ntmps14
      go_upto_region 1 with fail
      rw [← hW.out, ← hH.out]
      go_upto_region 3 with (go_at_call 15; refine (HL.out).mono ?_; rintro e w2 ⟨rfl, rfl⟩)
      go_wp2_with (first
        | ((with_reducible refine wpList_loadMF 41 (ndc nd) rg.out ?_ _ Tryd.underlying41 ?_ ?_ ?_); rfl; rfl; (rw [l106.out]; kernel_rfl))
        | ((with_reducible refine wpList_storeFA 41 bW aR hHw (ndc nd) ?_ ?_ 106 ?_ ?_ ?_ ?_ ?_); rfl; rfl; exact l106.out; kernel_rfl; exact zcN_len; exact one5.out; intro w5 a5 b5 k5 z5; clear k5; replace z5 := Lib.hid z5))
      refine bodyPost_ret (v := .tuple #[.agg (ndc nd).toArray, .bool true]) ((results_cellU (C := ndc nd) (by rfl) (by rfl) a5 _ Tryd.underlying41 rfl 106 l106.out (by kernel_rfl)).trans (by rfl)) (by rfl) ⟨rfl, b5⟩
  · rw [nodeV_out hin] at hZ
    subst hZ
    have one5 := Lib.hid zcN_one
    have hz : zcN = (ndc zeroNd).toArray := rfl
    replace hz := Lib.hid hz
    by_cases h0 : i < 0
    · have t0 : decide (i < 0) = true := by simpa using h0
      clear hi hin hn h
      go_enter Tryd.func14, Tryd.ntmps14
      go_upto_region 1 with fail
      rw [← hW.out, ← hH.out]
      go_wp2_with (first
        | (with_reducible refine wpList_buildE (.agg zcN) (bldN _ _ _ _ _ _) ?_)
        | ((with_reducible refine wpList_storeFA 41 bW aR hHw (ndc zeroNd) ?_ ?_ 106 ?_ ?_ ?_ ?_ ?_); rfl; rfl; exact zcN_len; kernel_rfl; exact zcN_len; exact one5.out; intro w5 a5 b5 k5 z5; clear k5; replace z5 := Lib.hid z5))
      refine bodyPost_ret (v := .tuple #[.agg zcN, .bool false]) ((results_cellU (C := ndc zeroNd) (by rfl) (by rfl) a5 _ Tryd.underlying41 rfl 106 zcN_len (by kernel_rfl)).trans (by rfl)) (by rfl) ⟨rfl, b5⟩
    · have t0 : decide (i < 0) = false := by simpa using h0
      have t1 : decide ((n : Int) ≤ i) = true := by simp; omega
      clear hi hin hn h
      go_enter Tryd.func14, Tryd.ntmps14
      go_upto_region 1 with fail
      rw [← hW.out, ← hH.out]
      go_upto_region 2 with (go_at_call 15; refine (HL.out).mono ?_; rintro e w2 ⟨rfl, rfl⟩)
      go_wp2_with (first
        | (with_reducible refine wpList_buildE (.agg zcN) (bldN _ _ _ _ _ _) ?_)
        | ((with_reducible refine wpList_storeFA 41 bW aR hHw (ndc zeroNd) ?_ ?_ 106 ?_ ?_ ?_ ?_ ?_); rfl; rfl; exact zcN_len; kernel_rfl; exact zcN_len; exact one5.out; intro w5 a5 b5 k5 z5; clear k5; replace z5 := Lib.hid z5))
      refine bodyPost_ret (v := .tuple #[.agg zcN, .bool false]) ((results_cellU (C := ndc zeroNd) (by rfl) (by rfl) a5 _ Tryd.underlying41 rfl 106 zcN_len (by kernel_rfl)).trans (by rfl)) (by rfl) ⟨rfl, b5⟩
theorem cmpN_pos2 (a b : Nat) : decide ((0 : Int) < cmpN a b) = decide (b < a) := by
  unfold cmpN
  rw [decide_eq_decide]
  split
  · constructor <;> omega
  · split
    · constructor <;> omega
    · constructor <;> omega
theorem ndc_at {n : Nd} (h : NdOk n) : (ndc n)[100]? = some (.int .i64 n.par) ∧ (ndc n)[101]? = some (.int .i64 (n.hgt : Int)) := by
  have h1 := h.id
  have h2 := hdc_length h.head
  constructor <;>
  · unfold ndc
    rw [List.getElem?_append_right (by simp [h1]), List.getElem?_append_right (by simp [h1, h2])]
    simp [h1, h2]
theorem rg_work {w : World} {b o : Nat} {n : Nd} (h : NdOk n) (r : w.rangeAt b o (ndc n)) : w.rangeAt b (o + 102) (uc n.wrk) := fun j u hu => by
  have h1 := h.id
  have h2 := hdc_length h.head
  have := r (102 + j) u (by
    unfold ndc
    rw [List.getElem?_append_right (by simp [h1]; omega), List.getElem?_append_right (by simp [h1, h2]; omega), List.getElem?_append_right (by simp [h1, h2]; omega)]
    simp only [List.length_map, h1, h2, List.length_cons, List.length_nil]
    rw [show 102 + j - 32 - 68 - (0 + 1 + 1) = j by omega]
    exact hu)
  rw [Nat.add_assoc]
  exact this
theorem rg_cell {w : World} {b o i : Nat} {cs : List Value} {u : Value} (r : w.rangeAt b o cs) (h : cs[i]? = some u) : w.cell? ⟨b, o + i, none⟩ = some u := r i u h
theorem tWrk_at {ns : List Nd} {i : Nat} {n : Nd} (h : ns[i]? = some n) : tWrk ns i = n.wrk := (tAt h).2.2
set_option maxRecDepth 100000 in
set_option maxHeartbeats 4000000 in
theorem TBest (v : Value) (ns : List Nd) (w : World) (h : TRef w v ns) : Calls Tryd.prog 13 #[v] w fun e w' => e = .returned (.tuple #[.int .i64 (mBest ns : Int), .bool (decide (0 < ns.length))]) ∧ Below w.heap.size w w' := by
  have HL := TLen v ns w h
  by_cases h0 : ns.length = 0
  · have hn : ns = [] := List.eq_nil_of_length_eq_zero h0
    subst hn
    have r0 : mBest [] = 0 := rfl
    rw [r0]
    replace HL := Lib.hid HL
    go_enter Tryd.func13, Tryd.ntmps13
    go_wp2_with (go_at_call 15; refine (HL.out).mono ?_; rintro e w2 ⟨rfl, rfl⟩)
    go_ret2
    exact ⟨rfl, Below.refl _ _⟩
  · rcases h with ⟨rfl, rfl⟩ | ⟨R, most, A, n, c, M, rfl, T⟩
    · simp at h0
    · obtain ⟨B, hB⟩ : ∃ B, B = mBest ns := ⟨_, rfl⟩
      rw [← hB, decide_eq_true (by omega : 0 < ns.length)]
      have hlen := T.len
      rw [hlen] at HL h0
      have hn0 : 0 < n := by omega
      obtain ⟨b, off, rfl⟩ := T.adr hn0
      have hsm := T.small
      have t0 : ((n : Int) == 0) = false := by simp; omega
      have c1 := T.av.cell 1 _ rfl
      replace HL := Lib.hid HL
      replace hlen := Lib.hid hlen
      replace hB := Lib.hid hB
      clear h0
      go_enter Tryd.func13, Tryd.ntmps13
      go_wp2_with (go_at_call 15; refine (HL.out).mono ?_; rintro e w2 ⟨rfl, rfl⟩)
      clear c1
      go_loopw [4, 14] (fun bs i wr => ∃ k : Nat, k ≤ n ∧ i = .int .i64 (k : Int) ∧ bs = .int .i64 (tBest ns k : Int) ∧ Below w.heap.size w wr) (fun _ i _ => n - (intOf i).toNat)
      case atStart => exact ⟨0, by omega, rfl, rfl, Below.refl _ _⟩
      case round =>
        obtain ⟨k, hk, rfl, rfl, bw⟩ := hrel
        by_cases hlt : k < n
        · have t1 : decide ((k : Int) < (n : Int)) = true := by simp; omega
          obtain ⟨j, hj⟩ : ∃ j, j = tBest ns k := ⟨_, rfl⟩
          have hjn : j < n := by rw [hj]; exact tBest_lt ns k n hk hn0
          have hnx : tBest ns (k + 1) = if tWrk ns j < tWrk ns k then k else j := by rw [tBest, ← hj]
          rw [← hj]
          obtain ⟨x, hx⟩ : ∃ x, ns[k]? = some x := ⟨_, List.getElem?_eq_getElem (by rw [hlen.out]; exact hlt)⟩
          obtain ⟨y, hy⟩ : ∃ y, ns[j]? = some y := ⟨_, List.getElem?_eq_getElem (by rw [hlen.out]; exact hjn)⟩
          rw [tWrk_at hx, tWrk_at hy] at hnx
          have GX : ∀ w', Below w.heap.size w w' → w'.rangeAt b (off + k * 106 + 102) (uc x.wrk) := fun w' h => by
            obtain ⟨q1, q2⟩ := (T.below h).nth k x hx
            exact rg_work q2 q1
          have GY : ∀ w', Below w.heap.size w w' → w'.rangeAt b (off + j * 106 + 102) (uc y.wrk) := fun w' h => by
            obtain ⟨q1, q2⟩ := (T.below h).nth j y hy
            exact rg_work q2 q1
          have HC := UCmp x.wrk y.wrk (T.nds x (List.mem_of_getElem? hx)).wrk (T.nds y (List.mem_of_getElem? hy)).wrk
          obtain ⟨X, hX⟩ : ∃ X, X = x.wrk := ⟨_, rfl⟩
          obtain ⟨Y, hY⟩ : ∃ Y, Y = y.wrk := ⟨_, rfl⟩
          rw [← hX] at HC GX hnx
          rw [← hY] at HC GY hnx
          obtain ⟨Z, hZ⟩ : ∃ Z, Z = cmpN X Y := ⟨_, rfl⟩
          have tZ : decide ((0 : Int) < Z) = decide (Y < X) := by rw [hZ]; exact cmpN_pos2 X Y
          rw [← hZ] at HC
          obtain ⟨g, hg⟩ : ∃ g, g = decide (Y < X) := ⟨_, rfl⟩
          rw [← hg] at tZ
          have m0 : (0 : Int) ≤ (k : Int) := by omega
          have m1 : (k : Int) < (n : Int) := by omega
          have j0 : (0 : Int) ≤ (j : Int) := by omega
          have j1 : (j : Int) < (n : Int) := by omega
          replace HC := Lib.hid HC
          replace GX := Lib.hid GX
          replace GY := Lib.hid GY
          replace hZ := Lib.hid hZ
          replace tZ := Lib.hid tZ
          replace hx := Lib.hid hx
          replace hy := Lib.hid hy
          replace hX := Lib.hid hX
          replace hY := Lib.hid hY
          replace hj := Lib.hid hj
          replace hnx := Lib.hid hnx
          go_upto_region 7 with fail
          refine wp_region_rel [] Ext (by kernel_rfl) (by kernel_rfl) (by kernel_rfl) Ext.refl Ext.trans (by intro p hp; cases hp) ?_
          refine relMove Ext.refl rfl rfl rfl rfl _ (.inl rfl) (by conv => lhs; whnf) (by simp only [List.set_cons_succ, List.set_cons_zero]; rfl) ?_
          refine relPure Ext.refl rfl rfl rfl rfl (c := .pointer (some ⟨R, 0, none⟩)) (fun w _ => by go_simp; first | done | rfl) (by simp only [List.set_cons_succ, List.set_cons_zero]; rfl) ?_
          refine relPure Ext.refl rfl rfl rfl rfl (c := .pointer (some ⟨R, 1, none⟩)) (fun w _ => by go_simp; first | done | rfl) (by simp only [List.set_cons_succ, List.set_cons_zero]; rfl) ?_
          refine relPure Ext.refl rfl rfl rfl rfl (c := .slice (some ⟨b, off, none⟩) n c) (fun w hw => by have := (T.av.below (bw.trans (hw.drew.mono bw.size))).cell 1 _ rfl; go_simp; first | done | rfl) (by simp only [List.set_cons_succ, List.set_cons_zero]; rfl) ?_
          refine relMove Ext.refl rfl rfl rfl rfl _ (.inl rfl) (by conv => lhs; whnf) (by simp only [List.set_cons_succ, List.set_cons_zero]; rfl) ?_
          refine relPure Ext.refl rfl rfl rfl rfl (c := .pointer (some ⟨b, off + k * 106, none⟩)) (fun w _ => by have := m0; have := m1; go_simp; first | done | rfl) (by simp only [List.set_cons_succ, List.set_cons_zero]; rfl) ?_
          refine relPure Ext.refl rfl rfl rfl rfl (c := .pointer (some ⟨b, off + k * 106 + 102, none⟩)) (fun w _ => by go_simp; first | done | rfl) (by simp only [List.set_cons_succ, List.set_cons_zero]; rfl) ?_
          refine relPure Ext.refl rfl rfl rfl rfl (c := .agg (uc X).toArray) (fun w hw => exec_load_mid _ _ rfl b (off + k * 106 + 102) rfl (uc X) _ (GX.out _ (bw.trans (hw.drew.mono bw.size))) Tryd.underlying39 rfl (by kernel_rfl)) (by simp only [List.set_cons_succ, List.set_cons_zero]; rfl) ?_
          refine relMove Ext.refl rfl rfl rfl rfl _ (.inl rfl) (by conv => lhs; whnf) (by simp only [List.set_cons_succ, List.set_cons_zero]; rfl) ?_
          refine relPure Ext.refl rfl rfl rfl rfl (c := .pointer (some ⟨R, 0, none⟩)) (fun w _ => by go_simp; first | done | rfl) (by simp only [List.set_cons_succ, List.set_cons_zero]; rfl) ?_
          refine relPure Ext.refl rfl rfl rfl rfl (c := .pointer (some ⟨R, 1, none⟩)) (fun w _ => by go_simp; first | done | rfl) (by simp only [List.set_cons_succ, List.set_cons_zero]; rfl) ?_
          refine relPure Ext.refl rfl rfl rfl rfl (c := .slice (some ⟨b, off, none⟩) n c) (fun w hw => by have := (T.av.below (bw.trans (hw.drew.mono bw.size))).cell 1 _ rfl; go_simp; first | done | rfl) (by simp only [List.set_cons_succ, List.set_cons_zero]; rfl) ?_
          refine relMove Ext.refl rfl rfl rfl rfl _ (.inl rfl) (by conv => lhs; whnf) (by simp only [List.set_cons_succ, List.set_cons_zero]; rfl) ?_
          refine relPure Ext.refl rfl rfl rfl rfl (c := .pointer (some ⟨b, off + j * 106, none⟩)) (fun w _ => by have := j0; have := j1; go_simp; first | done | rfl) (by simp only [List.set_cons_succ, List.set_cons_zero]; rfl) ?_
          refine relPure Ext.refl rfl rfl rfl rfl (c := .pointer (some ⟨b, off + j * 106 + 102, none⟩)) (fun w _ => by go_simp; first | done | rfl) (by simp only [List.set_cons_succ, List.set_cons_zero]; rfl) ?_
          refine relPure Ext.refl rfl rfl rfl rfl (c := .agg (uc Y).toArray) (fun w hw => exec_load_mid _ _ rfl b (off + j * 106 + 102) rfl (uc Y) _ (GY.out _ (bw.trans (hw.drew.mono bw.size))) Tryd.underlying39 rfl (by kernel_rfl)) (by simp only [List.set_cons_succ, List.set_cons_zero]; rfl) ?_
          refine relCall1 rfl rfl rfl rfl (c := .int .i64 Z) 16 #[.agg (uc X).toArray, .agg (uc Y).toArray] (fun w => by go_simp) (fun w hw => (HC.out w).mono ?_) (by simp only [List.set_cons_succ, List.set_cons_zero]; rfl) ?_
          · rintro e w' ⟨rfl, b⟩
            exact ⟨rfl, b⟩
          refine relPure Ext.refl rfl rfl rfl rfl (c := .bool g) (fun w _ => by have := tZ.out; go_simp; first | done | rfl) (by simp only [List.set_cons_succ, List.set_cons_zero]; rfl) ?_
          refine relEnd fun w6 hw6 => fill_end ?_
          have b6 := bw.trans (hw6.drew.mono bw.size)
          cases g
          · have : tBest ns (k + 1) = j := by rw [hnx.out, if_neg (by simpa using hg)]
            replace this := Lib.hid this
            clear hg
            go_wp2
            refine ⟨⟨k + 1, by omega, by go_num, by rw [this.out], b6⟩, ?_⟩
            simp [intOf]; omega
          · have : tBest ns (k + 1) = k := by rw [hnx.out, if_pos (by simpa using hg)]
            replace this := Lib.hid this
            clear hg
            go_wp2
            refine ⟨⟨k + 1, by omega, by go_num, by rw [this.out], b6⟩, ?_⟩
            simp [intOf]; omega
        · obtain rfl : k = n := by omega
          have t1 : decide ((k : Int) < (k : Int)) = false := by simp
          have hB2 : tBest ns k = B := by rw [hB.out, mBest, hlen.out]
          rw [hB2]
          replace hB2 := Lib.hid hB2
          go_wp2
          go_ret2
          exact ⟨rfl, bw⟩
/-- the answer of tree.Above -/
def aboveV (ns : List Nd) (i h : Int) : Value := if 0 ≤ i ∧ i < ns.length ∧ 0 ≤ h ∧ h ≤ tHgt ns i.toNat then .tuple #[.int .i64 (tAnc ns i.toNat (tHgt ns i.toNat - h.toNat) : Nat), .bool true] else .tuple #[.int .i64 0, .bool false]
theorem tHgt_at {ns : List Nd} {i : Nat} {n : Nd} (h : ns[i]? = some n) : tHgt ns i = n.hgt := (tAt h).2.1
theorem TOk.par {ns : List Nd} (ok : TOk ns) {i : Nat} {n : Nd} (h : ns[i]? = some n) (h0 : i ≠ 0) : n.par = (tPar ns i : Int) := by
  obtain ⟨p, m, e1, _⟩ := ok.step i n h h0
  rw [(tAt h).1, e1]
  rfl
set_option maxRecDepth 100000 in
set_option maxHeartbeats 4000000 in
theorem TAbove (v : Value) (ns : List Nd) (ok : TOk ns) (i h : Int) (hi : -9223372036854775808 ≤ i ∧ i ≤ 9223372036854775807) (w : World) (ht : TRef w v ns) : Calls Tryd.prog 23 #[v, .int .i64 i, .int .i64 h] w fun e w' => e = .returned (aboveV ns i h) ∧ Below w.heap.size w w' := by
  have HN := TNode v ns i hi w ht
  obtain ⟨Z, hZ⟩ : ∃ Z, Z = aboveV ns i h := ⟨_, rfl⟩
  rw [← hZ]
  by_cases hin : 0 ≤ i ∧ i < ns.length
  · obtain ⟨k, rfl⟩ : ∃ k : Nat, i = (k : Int) := ⟨i.toNat, by omega⟩
    have hkl : k < ns.length := by omega
    obtain ⟨nd, hnd⟩ : ∃ nd, ns[k]? = some nd := ⟨_, List.getElem?_eq_getElem hkl⟩
    rw [nodeV_in hnd] at HN
    have hth := tHgt_at hnd
    rcases ht with ⟨rfl, rfl⟩ | ⟨R, most, A, n, c, M, rfl, T⟩
    · simp at hkl
    · have hlen := T.len
      have hn0 : 0 < n := by omega
      obtain ⟨b, off, rfl⟩ := T.adr hn0
      have nok := T.nds nd (List.mem_of_getElem? hnd)
      have l106 := Lib.hid (ndc_length nok)
      have one2 := Lib.hid (List.all_eq_true.2 (ndc_one nd))
      obtain ⟨_, q101⟩ := ndc_at nok
      have hhs : nd.hgt < 1048576 := by
        have := ok.hgt_le hkl
        have := T.small
        omega
      obtain ⟨G, hG⟩ : ∃ G, G = nd.hgt := ⟨_, rfl⟩
      rw [← hG] at hth q101 hhs
      replace HN := Lib.hid HN
      replace hG := Lib.hid hG
      replace q101 := Lib.hid q101
      replace hnd := Lib.hid hnd
      replace hlen := Lib.hid hlen
      clear nok
      by_cases hh : 0 ≤ h ∧ h ≤ (G : Int)
      · obtain ⟨q, rfl⟩ : ∃ q : Nat, h = (q : Int) := ⟨h.toNat, by omega⟩
        have hZ2 : Z = .tuple #[.int .i64 (tAnc ns k (G - q) : Nat), .bool true] := by
          rw [hZ, aboveV]
          simp only [Int.toNat_natCast, hth]
          rw [if_pos (by omega)]
        have t0 : decide ((q : Int) < 0) = false := by simp
        have t1 : decide ((G : Int) < (q : Int)) = false := by simp; omega
        have t1' : decide (G < q) = false := by simp; omega
        have hqG : q ≤ G := by omega
        replace hth := Lib.hid hth
        replace hZ2 := Lib.hid hZ2
        clear hin hi hh hZ
        go_enter Tryd.func23, Tryd.ntmps23
        go_upto_region 2 with (first
      | (go_at_call 14; refine (HN.out).mono ?_; rintro e w1 ⟨rfl, b1⟩)
      | ((with_reducible refine wpList_storeF 41 ((Below.refl w1.heap.size w1).alloc (Nat.le_refl _) _) (heap_alloc_new _ _) (Nat.le_refl _) (ndc nd) ?_ ?_ 106 ?_ ?_ ?_ ?_ ?_); rfl; rfl; exact l106.out; kernel_rfl; exact zcN_len; exact one2.out; intro w2 a2 b2 k2 z2; clear k2; replace z2 := Lib.hid z2))
        have b3 := b1.trans (b2.mono b1.size)
        have c101 := a2.cell 101 _ q101.out
        clear a2 b1 b2
        go_upto_region 4 with fail
        clear c101
        go_loopw [1] (fun iv wr => ∃ d : Nat, d ≤ G - q ∧ iv = .int .i64 (tAnc ns k d : Nat) ∧ Below w.heap.size w wr) (fun iv _ => (intOf iv).toNat)
        case atStart => exact ⟨0, by omega, rfl, b3⟩
        case round =>
          obtain ⟨d, hd, rfl, bw⟩ := hrel
          have hle : d ≤ tHgt ns k := by rw [hth.out]; omega
          obtain ⟨p1, p2, p3⟩ := ok.anc hkl d hle
          rw [hth.out] at p2
          obtain ⟨j, hj⟩ : ∃ j, j = tAnc ns k d := ⟨_, rfl⟩
          rw [← hj] at p1 p2 p3 ⊢
          obtain ⟨x, hx⟩ : ∃ x, ns[j]? = some x := ⟨_, List.getElem?_eq_getElem p1⟩
          obtain ⟨r1, r2⟩ := (T.below bw).nth j x hx
          obtain ⟨c100, c101⟩ := ndc_at r2
          have c100 := rg_cell r1 c100
          have c101 := rg_cell r1 c101
          have c1 := (T.below bw).av.cell 1 _ rfl
          have hxh : x.hgt = G - d := by rw [← tHgt_at hx]; exact p2
          have m0 : (0 : Int) ≤ (j : Int) := by omega
          have m1 : (j : Int) < (n : Int) := by have := hlen.out; omega
          obtain ⟨X, hX⟩ : ∃ X, X = x.hgt := ⟨_, rfl⟩
          rw [← hX] at hxh c101
          replace hX := Lib.hid hX
          clear r1 r2
          by_cases hgt : d < G - q
          · have u1 : decide ((q : Int) < (X : Int)) = true := by simp; omega
            have u1' : decide (q < X) = true := by simp; omega
            have hj0 : j ≠ 0 := by
              intro e
              have := (ok.hgt_0 p1).2 e
              omega
            have hpar := ok.par hx hj0
            have hlt : tPar ns j < j := by
              rcases ok.up p1 with ⟨_, e⟩ | ⟨_, e, _⟩
              · exact absurd e hj0
              · exact e
            have hnx : tAnc ns k (d + 1) = tPar ns j := by rw [tAnc, ← hj]
            obtain ⟨Y, hY⟩ : ∃ Y, Y = tPar ns j := ⟨_, rfl⟩
            rw [← hY] at hpar hlt hnx
            rw [hpar] at c100
            replace hpar := Lib.hid hpar
            replace hY := Lib.hid hY
            replace hnx := Lib.hid hnx
            replace hj := Lib.hid hj
            replace hx := Lib.hid hx
            replace p2 := Lib.hid p2
            replace hxh := Lib.hid hxh
            clear hle p3
            go_wp2
            refine ⟨⟨d + 1, by omega, by rw [hnx.out], bw⟩, ?_⟩
            simp [intOf]; omega
          · obtain rfl : d = G - q := by omega
            have u1 : decide ((q : Int) < (X : Int)) = false := by simp; omega
            have u1' : decide (q < X) = false := by simp; omega
            replace hj := Lib.hid hj
            replace hx := Lib.hid hx
            replace p2 := Lib.hid p2
            replace hxh := Lib.hid hxh
            clear hle p3 hgt
            go_wp2
            go_ret2
            refine ⟨?_, bw⟩
            rw [hZ2.out, ← hj.out]
            rfl
      · have hZ2 : Z = .tuple #[.int .i64 0, .bool false] := by
          rw [hZ, aboveV]
          simp only [Int.toNat_natCast, hth]
          rw [if_neg (by omega)]
        subst hZ2
        by_cases h0 : h < 0
        · have t0 : decide (h < 0) = true := by simpa using h0
          clear hin hi hh hZ hth
          go_enter Tryd.func23, Tryd.ntmps23
          go_upto_region 2 with (first
      | (go_at_call 14; refine (HN.out).mono ?_; rintro e w1 ⟨rfl, b1⟩)
      | ((with_reducible refine wpList_storeF 41 ((Below.refl w1.heap.size w1).alloc (Nat.le_refl _) _) (heap_alloc_new _ _) (Nat.le_refl _) (ndc nd) ?_ ?_ 106 ?_ ?_ ?_ ?_ ?_); rfl; rfl; exact l106.out; kernel_rfl; exact zcN_len; exact one2.out; intro w2 a2 b2 k2 z2; clear k2; replace z2 := Lib.hid z2))
          have b3 := b1.trans (b2.mono b1.size)
          go_wp2
          go_ret2
          exact ⟨rfl, b3⟩
        · have t0 : decide (h < 0) = false := by simpa using h0
          have t1 : decide ((G : Int) < h) = true := by simp; omega
          clear hin hi hh hZ hth
          go_enter Tryd.func23, Tryd.ntmps23
          go_upto_region 2 with (first
      | (go_at_call 14; refine (HN.out).mono ?_; rintro e w1 ⟨rfl, b1⟩)
      | ((with_reducible refine wpList_storeF 41 ((Below.refl w1.heap.size w1).alloc (Nat.le_refl _) _) (heap_alloc_new _ _) (Nat.le_refl _) (ndc nd) ?_ ?_ 106 ?_ ?_ ?_ ?_ ?_); rfl; rfl; exact l106.out; kernel_rfl; exact zcN_len; exact one2.out; intro w2 a2 b2 k2 z2; clear k2; replace z2 := Lib.hid z2))
          have b3 := b1.trans (b2.mono b1.size)
          have c101 := a2.cell 101 _ q101.out
          go_wp2
          go_ret2
          exact ⟨rfl, b3⟩
  · rw [nodeV_out hin] at HN
    have hZ2 : Z = .tuple #[.int .i64 0, .bool false] := by rw [hZ, aboveV, if_neg (fun q => hin ⟨q.1, q.2.1⟩)]
    subst hZ2
    have one2 := Lib.hid zcN_one
    replace HN := Lib.hid HN
    clear hin hi hZ
    go_enter Tryd.func23, Tryd.ntmps23
    go_upto_region 2 with (first
      | (go_at_call 14; refine (HN.out).mono ?_; rintro e w1 ⟨rfl, b1⟩)
      | ((with_reducible refine wpList_storeF 41 ((Below.refl w1.heap.size w1).alloc (Nat.le_refl _) _) (heap_alloc_new _ _) (Nat.le_refl _) (ndc zeroNd) ?_ ?_ 106 ?_ ?_ ?_ ?_ ?_); rfl; rfl; exact zcN_len; kernel_rfl; exact zcN_len; exact one2.out; intro w2 a2 b2 k2 z2; clear k2; replace z2 := Lib.hid z2))
    have b3 := b1.trans (b2.mono b1.size)
    go_wp2
    go_ret2
    exact ⟨rfl, b3⟩
theorem mCom_fuel {ns : List Nd} (ok : TOk ns) (f g i j : Nat) (hf : i + j < f) (hg : i + j < g) (hi : i < ns.length) (hj : j < ns.length) : mCom ns f i j = mCom ns g i j := by
  obtain ⟨a1, a2, a3⟩ := mCom_spec ok f i j hf hi hj
  obtain ⟨b1, b2, b3⟩ := mCom_spec ok g i j hg hi hj
  exact tIn_anti ok (tIn_le ok hi a1).2.1 (tIn_le ok hi b1).2.1 (b3 _ a1 a2) (a3 _ b1 b2)
/-- the answer of tree.Common -/
def comV (ns : List Nd) (i j : Int) : Value := if 0 ≤ i ∧ 0 ≤ j ∧ i < ns.length ∧ j < ns.length then .tuple #[.int .i64 (mCom ns (i.toNat + j.toNat + 1) i.toNat j.toNat : Nat), .bool true] else .tuple #[.int .i64 0, .bool false]
set_option maxRecDepth 100000 in
set_option maxHeartbeats 4000000 in
theorem TCommon (v : Value) (ns : List Nd) (ok : TOk ns) (i j : Int) (w : World) (ht : TRef w v ns) : Calls Tryd.prog 22 #[v, .int .i64 i, .int .i64 j] w fun e w' => e = .returned (comV ns i j) ∧ Below w.heap.size w w' := by
  have HL := TLen v ns w ht
  obtain ⟨Z, hZ⟩ : ∃ Z, Z = comV ns i j := ⟨_, rfl⟩
  rw [← hZ]
  by_cases hin : 0 ≤ i ∧ 0 ≤ j ∧ i < ns.length ∧ j < ns.length
  · obtain ⟨k, rfl⟩ : ∃ k : Nat, i = (k : Int) := ⟨i.toNat, by omega⟩
    obtain ⟨q, rfl⟩ : ∃ k : Nat, j = (k : Int) := ⟨j.toNat, by omega⟩
    have hZ2 : Z = .tuple #[.int .i64 (mCom ns (k + q + 1) k q : Nat), .bool true] := by
      rw [hZ, comV, if_pos hin]
      simp only [Int.toNat_natCast]
    rcases ht with ⟨rfl, rfl⟩ | ⟨R, most, A, n, c, M, rfl, T⟩
    · simp at hin; omega
    · have hlen := T.len
      rw [hlen] at HL
      have hk : k < n := by omega
      have hq : q < n := by omega
      obtain ⟨b, off, rfl⟩ := T.adr (by omega)
      replace HL := Lib.hid HL
      replace hZ2 := Lib.hid hZ2
      replace hlen := Lib.hid hlen
      have k0 : (0 : Int) ≤ (k : Int) := by omega
      have q0 : (0 : Int) ≤ (q : Int) := by omega
      have k1 : (k : Int) < (n : Int) := by omega
      have q1 : (q : Int) < (n : Int) := by omega
      have hmin : (0 : Int) ≤ min (k : Int) (q : Int) := by omega
      have hmax : max (k : Int) (q : Int) < (n : Int) := by omega
      have hmin' : decide (min (k : Int) (q : Int) < 0) = false := by simp; omega
      have hmax' : decide ((n : Int) ≤ max (k : Int) (q : Int)) = false := by simp; omega
      clear hin hZ
      go_enter Tryd.func22, Tryd.ntmps22
      go_upto_region 3 with (go_at_call 15; refine (HL.out).mono ?_; rintro e w2 ⟨rfl, rfl⟩)
      obtain ⟨C, hC⟩ : ∃ C, C = mCom ns (k + q + 1) k q := ⟨_, rfl⟩
      clear hmin hmax hmin' hmax'
      go_loopw [1, 2] (fun iv jv wr => ∃ x y : Nat, x < n ∧ y < n ∧ iv = .int .i64 (x : Int) ∧ jv = .int .i64 (y : Int) ∧ Hid (mCom ns (x + y + 1) x y = C) ∧ wr = w) (fun iv jv _ => (intOf iv).toNat + (intOf jv).toNat)
      case atStart => exact ⟨k, q, hk, hq, rfl, rfl, Lib.hid hC.symm, rfl⟩
      case round =>
        obtain ⟨x, y, hx, hy, rfl, rfl, hxy, rfl⟩ := hrel
        replace hC := Lib.hid hC
        have x0 : (0 : Int) ≤ (x : Int) := by omega
        have y0 : (0 : Int) ≤ (y : Int) := by omega
        have x1 : (x : Int) < (n : Int) := by omega
        have y1 : (y : Int) < (n : Int) := by omega
        by_cases he : x = y
        · subst he
          have u0 : ((x : Int) != (x : Int)) = false := by simp
          go_wp2
          go_ret2
          refine ⟨?_, Below.refl _ _⟩
          have : mCom ns (x + x + 1) x x = x := by simp [mCom]
          rw [hZ2.out, ← hC.out, ← hxy.out, this]
          rfl
        · have u0 : ((x : Int) != (y : Int)) = true := by simp; omega
          have c1 := T.av.cell 1 _ rfl
          by_cases hlt : y < x
          · have u1 : decide ((y : Int) < (x : Int)) = true := by simp; omega
            have u2 : decide (y < x) = true := by simp; omega
            obtain ⟨nd, hnd⟩ : ∃ nd, ns[x]? = some nd := ⟨_, List.getElem?_eq_getElem (by rw [hlen.out]; exact hx)⟩
            obtain ⟨r1, r2⟩ := T.nth x nd hnd
            have c100 := rg_cell r1 (ndc_at r2).1
            have hx0 : x ≠ 0 := by omega
            rw [ok.par hnd hx0] at c100
            have hlt2 : tPar ns x < x := by
              rcases ok.up (by rw [hlen.out]; exact hx) with ⟨_, e⟩ | ⟨_, e, _⟩
              · exact absurd e hx0
              · exact e
            have hnx : mCom ns (tPar ns x + y + 1) (tPar ns x) y = C := by
              rw [← hxy.out]
              conv => rhs; rw [mCom, if_neg he, if_pos hlt]
              exact mCom_fuel ok _ _ _ _ (by omega) (by omega) (by rw [hlen.out]; omega) (by rw [hlen.out]; omega)
            obtain ⟨Y, hY⟩ : ∃ Y, Y = tPar ns x := ⟨_, rfl⟩
            rw [← hY] at c100 hlt2 hnx
            replace hY := Lib.hid hY
            replace hnx := Lib.hid hnx
            replace hnd := Lib.hid hnd
            clear r1 r2 hxy he
            go_wp2
            refine ⟨⟨Y, y, by omega, by omega, rfl, rfl, hnx, trivial⟩, ?_⟩
            simp [intOf]; omega
          · have u1 : decide ((y : Int) < (x : Int)) = false := by simp; omega
            have u2 : decide (y < x) = false := by simp; omega
            obtain ⟨nd, hnd⟩ : ∃ nd, ns[y]? = some nd := ⟨_, List.getElem?_eq_getElem (by rw [hlen.out]; exact hy)⟩
            obtain ⟨r1, r2⟩ := T.nth y nd hnd
            have c100 := rg_cell r1 (ndc_at r2).1
            have hx0 : y ≠ 0 := by omega
            rw [ok.par hnd hx0] at c100
            have hlt2 : tPar ns y < y := by
              rcases ok.up (by rw [hlen.out]; exact hy) with ⟨_, e⟩ | ⟨_, e, _⟩
              · exact absurd e hx0
              · exact e
            have hnx : mCom ns (x + tPar ns y + 1) x (tPar ns y) = C := by
              rw [← hxy.out]
              conv => rhs; rw [mCom, if_neg he, if_neg hlt]
              exact mCom_fuel ok _ _ _ _ (by omega) (by omega) (by rw [hlen.out]; omega) (by rw [hlen.out]; omega)
            obtain ⟨Y, hY⟩ : ∃ Y, Y = tPar ns y := ⟨_, rfl⟩
            rw [← hY] at c100 hlt2 hnx
            replace hY := Lib.hid hY
            replace hnx := Lib.hid hnx
            replace hnd := Lib.hid hnd
            clear r1 r2 hxy he
            go_wp2
            refine ⟨⟨x, Y, by omega, by omega, rfl, rfl, hnx, trivial⟩, ?_⟩
            simp [intOf]; omega
  · have hZ2 : Z = .tuple #[.int .i64 0, .bool false] := by rw [hZ, comV, if_neg hin]
    subst hZ2
    replace HL := Lib.hid HL
    clear hZ
    by_cases hm : min i j < 0
    · have t0 : decide (min i j < 0) = true := by simpa using hm
      clear hin
      go_enter Tryd.func22, Tryd.ntmps22
      go_wp2
      go_ret2
      exact ⟨rfl, Below.refl _ _⟩
    · have t0 : decide (min i j < 0) = false := by simpa using hm
      have hm2 : ¬ max i j < (ns.length : Int) := by omega
      have t1 : decide ((ns.length : Int) ≤ max i j) = true := by simp; omega
      have hm3 : (ns.length : Int) ≤ max i j := by omega
      clear hin
      go_enter Tryd.func22, Tryd.ntmps22
      go_wp2_with (go_at_call 15; refine (HL.out).mono ?_; rintro e w2 ⟨rfl, rfl⟩)
      go_ret2
      exact ⟨rfl, Below.refl _ _⟩
end Go.Proofs.YtijnkieakenipaaDoor
