/- florinref11.Extract. -/
import Derived.Test.YtdkknincamkhpaaDoorPr18
import Derived.Test.YtdkknincamkhpaaDoorPr19
namespace Go.Proofs.YtdkknincamkhpaaDoor
open Go.RowKit
theorem built_tkR (tot : Nat) (Ah : Option Addr) (nh ch : Nat) (Af : Option Addr) (nf cf : Nat) : Tryd.prog.built 125 [(0, .agg (trc tot Ah nh ch Af nf cf).toArray), (1, .int .i64 (tot : Int))] = some (tkc tot Ah nh ch Af nf cf 0 0 (.slice none 0 0) false).toArray := by
  kernel_rfl
set_option maxRecDepth 100000 in
set_option maxHeartbeats 8000000 in
theorem ER_no (fl : List UInt8) (hs : List (List UInt8)) (h32 : All32 hs) (tot : Nat) (Ah : Option Addr) (nh ch : Nat) (Af : Option Addr) (nf cf : Nat) (hnh : hs.length = nh) (hnf : fl.length = nf) (htb : tot < 4294967296) (hnf2 : nf ≤ 10000) (_ : nh ≤ 10000) (hm : pMay tot hs fl = false) (w : World)
    (hrh : Rd w Ah (hcl hs)) (hrf : Rd w Af (fl.map bv)) :
    Calls Tryd.prog 49 #[.agg (trc tot Ah nh ch Af nf cf).toArray] w (ExtPost w none) := by
  have _u := And.intro h32 (And.intro hrh (And.intro hrf (And.intro hnh (And.intro hnf htb))))
  have hz := zeros_32
  rw [show List.replicate 32 (0 : UInt8) = zs32 from rfl] at hz
  obtain ⟨T, hT1⟩ : ∃ T, T = w.heap.size := ⟨_, rfl⟩
  obtain ⟨G, hG⟩ : ∃ G, G = w.heap.size + 1 := ⟨_, rfl⟩
  obtain ⟨W, hW⟩ : ∃ W, W = (w.alloc (.cells (trc tot Ah nh ch Af nf cf).toArray 26)).alloc (.cells (zs32.map bv).toArray 28) := ⟨_, rfl⟩
  have bW : Below w.heap.size w W := by rw [hW]; exact ((Below.refl _ _).alloc (Nat.le_refl _) _).alloc (by simp) _
  have aT : Av W T 26 (trc tot Ah nh ch Af nf cf) := by rw [hW, hT1]; exact Av.newer w (trc tot Ah nh ch Af nf cf) _ _
  have aG : Av W G 28 (zs32.map bv) := by rw [hW, hG, ← World.size_alloc w (.cells (trc tot Ah nh ch Af nf cf).toArray 26)]; exact Av.new _ _ _
  have hGw : w.heap.size ≤ G := by omega
  have hzone : (zs32.map bv).all (·.oneCell') = true := rfl
  have sW : W.heap.size = w.heap.size + 2 := by rw [hW]; simp
  have c0 := aT.cell 0 _ rfl
  have c1 := aT.cell 1 _ rfl
  have c2 := aT.cell 2 _ rfl
  have hm' : ¬ (tot ≠ 0 ∧ tot ≤ 4096 ∧ nh ≤ tot ∧ nh ≤ 8 * nf) := by
    rw [← hnh, ← hnf]
    exact of_decide_eq_false hm
  replace hm := Lib.hid hm
  have w8 : IntKind.i64.wrap (8 * (nf : Int)) = 8 * (nf : Int) := by rw [IntKind.wrap_i64]; omega
  have wt : IntKind.i64.wrap (tot : Int) = (tot : Int) := by rw [IntKind.wrap_i64]; omega
  replace hW := Lib.hid hW
  replace hT1 := Lib.hid hT1
  replace hG := Lib.hid hG
  replace hzone := Lib.hid hzone
  replace hnh := Lib.hid hnh
  replace hnf := Lib.hid hnf
  replace sW := Lib.hid sW
  clear _u
  by_cases h0 : tot = 0
  · have t0 : ((tot : Int) == 0) = true := by simp; omega
    clear hm'
    replace h0 := Lib.hid h0
    go_enter Tryd.func49, Tryd.ntmps49
    go_upto_region 1 with fail
    rw [← hT1.out]
    rw [show T + 1 = G by rw [hT1.out, hG.out]]
    rw [← hW.out]
    go_wp2_with (first
      | ((with_reducible refine wpList_build (.agg (zs32.map bv).toArray) ?_ ?_); (go_simp; first | done | rfl))
      | ((with_reducible refine wpList_storeFA 28 bW aG hGw (zs32.map bv) ?_ ?_ 32 rfl ?_ ?_ ?_ ?_); rfl; rfl; kernel_rfl; rfl; exact hzone.out; intro w9 a9 b9 k9 z9))
    refine bodyPost_ret (v := .tuple #[.agg (hcs zs32), .slice none 0 0, .int .i64 13]) ((results_cellAv2 (C := zs32.map bv) (by rfl) (by rfl) a9 _ Tryd.underlying28 rfl 32 rfl (by kernel_rfl)).trans (by rfl)) (by rfl) ⟨b9, rfl⟩
  have t0 : ((tot : Int) == 0) = false := by simp; omega
  by_cases h1 : 4096 < tot
  · have t1 : decide ((4096 : Int) < (tot : Int)) = true := decide_eq_true (by omega)
    clear hm'
    go_enter Tryd.func49, Tryd.ntmps49
    go_upto_region 1 with fail
    rw [← hT1.out]
    rw [show T + 1 = G by rw [hT1.out, hG.out]]
    rw [← hW.out]
    go_wp2_with (first
      | ((with_reducible refine wpList_build (.agg (zs32.map bv).toArray) ?_ ?_); (go_simp; first | done | rfl))
      | ((with_reducible refine wpList_storeFA 28 bW aG hGw (zs32.map bv) ?_ ?_ 32 rfl ?_ ?_ ?_ ?_); rfl; rfl; kernel_rfl; rfl; exact hzone.out; intro w9 a9 b9 k9 z9))
    refine bodyPost_ret (v := .tuple #[.agg (hcs zs32), .slice none 0 0, .int .i64 13]) ((results_cellAv2 (C := zs32.map bv) (by rfl) (by rfl) a9 _ Tryd.underlying28 rfl 32 rfl (by kernel_rfl)).trans (by rfl)) (by rfl) ⟨b9, rfl⟩
  have t1 : decide ((4096 : Int) < (tot : Int)) = false := decide_eq_false (by omega)
  by_cases h2 : tot < nh
  · have t2 : decide ((tot : Int) < (nh : Int)) = true := decide_eq_true (by omega)
    clear hm'
    go_enter Tryd.func49, Tryd.ntmps49
    go_upto_region 1 with fail
    rw [← hT1.out]
    rw [show T + 1 = G by rw [hT1.out, hG.out]]
    rw [← hW.out]
    go_wp2_with (first
      | ((with_reducible refine wpList_build (.agg (zs32.map bv).toArray) ?_ ?_); (go_simp; first | done | rfl))
      | ((with_reducible refine wpList_storeFA 28 bW aG hGw (zs32.map bv) ?_ ?_ 32 rfl ?_ ?_ ?_ ?_); rfl; rfl; kernel_rfl; rfl; exact hzone.out; intro w9 a9 b9 k9 z9))
    refine bodyPost_ret (v := .tuple #[.agg (hcs zs32), .slice none 0 0, .int .i64 13]) ((results_cellAv2 (C := zs32.map bv) (by rfl) (by rfl) a9 _ Tryd.underlying28 rfl 32 rfl (by kernel_rfl)).trans (by rfl)) (by rfl) ⟨b9, rfl⟩
  have t2 : decide ((tot : Int) < (nh : Int)) = false := decide_eq_false (by omega)
  have t3 : decide (8 * (nf : Int) < (nh : Int)) = true := decide_eq_true (by omega)
  clear hm'
  go_enter Tryd.func49, Tryd.ntmps49
  go_upto_region 1 with fail
  rw [← hT1.out]
  rw [show T + 1 = G by rw [hT1.out, hG.out]]
  rw [← hW.out]
  go_wp2_with (first
    | ((with_reducible refine wpList_build (.agg (zs32.map bv).toArray) ?_ ?_); (go_simp; first | done | rfl))
    | ((with_reducible refine wpList_storeFA 28 bW aG hGw (zs32.map bv) ?_ ?_ 32 rfl ?_ ?_ ?_ ?_); rfl; rfl; kernel_rfl; rfl; exact hzone.out; intro w9 a9 b9 k9 z9))
  refine bodyPost_ret (v := .tuple #[.agg (hcs zs32), .slice none 0 0, .int .i64 13]) ((results_cellAv2 (C := zs32.map bv) (by rfl) (by rfl) a9 _ Tryd.underlying28 rfl 32 rfl (by kernel_rfl)).trans (by rfl)) (by rfl) ⟨b9, rfl⟩
/-- are the digits from c on zero? -/
def rstB (fl : List UInt8) (nf c : Nat) : Bool := (List.range (8 * nf - c)).all fun j => pDig fl (c + j) != some true
theorem rstB_end (fl : List UInt8) (nf c : Nat) (h : 8 * nf ≤ c) : rstB fl nf c = true := by
  unfold rstB
  rw [Nat.sub_eq_zero_of_le h]
  rfl
theorem rstB_step (fl : List UInt8) (nf c : Nat) (b : Bool) (h : c < 8 * nf) (hb : pDig fl c = some b) : rstB fl nf c = (!b && rstB fl nf (c + 1)) := by
  unfold rstB
  rw [show 8 * nf - c = (8 * nf - (c + 1)) + 1 by omega, List.range_succ_eq_map, List.all_cons, List.all_map]
  congr 1
  · rw [Nat.add_zero, hb]
    cases b <;> rfl
  · congr 1
    funext j
    simp only [Function.comp_apply, Nat.succ_eq_add_one]
    rw [show c + (j + 1) = c + 1 + j by omega]
theorem rstB_rest (fl : List UInt8) (nf d : Nat) (h : (d + 7) / 8 = nf) : rstB fl nf d = pRest fl d := by
  unfold rstB pRest
  rw [show 8 * nf - d = (8 - d % 8) % 8 by omega]
/-- the number in a cell -/
def cellNat (w : World) (a : Addr) : Nat := match w.cell? a with | some (.int _ z) => z.toNat | _ => 0
theorem cellNat_of {w : World} {a : Addr} {k : IntKind} {z : Int} (h : w.cell? a = some (.int k z)) : cellNat w a = z.toNat := by
  unfold cellNat
  rw [h]
set_option maxRecDepth 100000 in
set_option maxHeartbeats 8000000 in
theorem ER_bad (fl : List UInt8) (hs : List (List UInt8)) (h32 : All32 hs) (tot : Nat) (Ah : Option Addr) (nh ch : Nat) (Af : Option Addr) (nf cf : Nat) (hnh : hs.length = nh) (hnf : fl.length = nf) (htb : tot < 4294967296) (hnf2 : nf ≤ 10000) (hnh2 : nh ≤ 10000) (hm : pMay tot hs fl = true) (hrd : pRd tot fl hs (pHt tot) 0 0 0 = none) (w : World)
    (hrh : Rd w Ah (hcl hs)) (hrf : Rd w Af (fl.map bv)) :
    Calls Tryd.prog 49 #[.agg (trc tot Ah nh ch Af nf cf).toArray] w (ExtPost w none) := by
  have _u := And.intro h32 (And.intro hrh (And.intro hrf (And.intro hnh (And.intro hnf htb))))
  have hz := zeros_32
  rw [show List.replicate 32 (0 : UInt8) = zs32 from rfl] at hz
  obtain ⟨T, hT1⟩ : ∃ T, T = w.heap.size := ⟨_, rfl⟩
  obtain ⟨G, hG⟩ : ∃ G, G = w.heap.size + 1 := ⟨_, rfl⟩
  obtain ⟨W, hW⟩ : ∃ W, W = (w.alloc (.cells (trc tot Ah nh ch Af nf cf).toArray 26)).alloc (.cells (zs32.map bv).toArray 28) := ⟨_, rfl⟩
  have bW : Below w.heap.size w W := by rw [hW]; exact ((Below.refl _ _).alloc (Nat.le_refl _) _).alloc (by simp) _
  have aT : Av W T 26 (trc tot Ah nh ch Af nf cf) := by rw [hW, hT1]; exact Av.newer w (trc tot Ah nh ch Af nf cf) _ _
  have aG : Av W G 28 (zs32.map bv) := by rw [hW, hG, ← World.size_alloc w (.cells (trc tot Ah nh ch Af nf cf).toArray 26)]; exact Av.new _ _ _
  have hGw : w.heap.size ≤ G := by omega
  have hzone : (zs32.map bv).all (·.oneCell') = true := rfl
  have sW : W.heap.size = w.heap.size + 2 := by rw [hW]; simp
  have c0 := aT.cell 0 _ rfl
  have c1 := aT.cell 1 _ rfl
  have c2 := aT.cell 2 _ rfl
  have may : tot ≠ 0 ∧ tot ≤ 4096 ∧ nh ≤ tot ∧ nh ≤ 8 * nf := by
    rw [← hnh, ← hnf]
    exact of_decide_eq_true hm
  have ht0 : 0 < tot := by omega
  have ht : tot ≤ 4096 := may.2.1
  have t0 : ((tot : Int) == 0) = false := by simp; omega
  have t1 : decide ((4096 : Int) < (tot : Int)) = false := decide_eq_false (by omega)
  have t2 : decide ((tot : Int) < (nh : Int)) = false := decide_eq_false (by omega)
  have t3 : decide (8 * (nf : Int) < (nh : Int)) = false := decide_eq_false (by omega)
  have h2n : ¬ (tot < nh) := by omega
  have h3n : ¬ (8 * nf < nh) := by omega
  have w8 : IntKind.i64.wrap (8 * (nf : Int)) = 8 * (nf : Int) := by rw [IntKind.wrap_i64]; omega
  have wt : IntKind.i64.wrap (tot : Int) = (tot : Int) := by rw [IntKind.wrap_i64]; omega
  obtain ⟨R, hR⟩ : ∃ R, R = W.heap.size := ⟨_, rfl⟩
  obtain ⟨W2, hW2⟩ : ∃ W2, W2 = W.alloc (.cells (tkc tot Ah nh ch Af nf cf 0 0 (.slice none 0 0) false).toArray 125) := ⟨_, rfl⟩
  have bW2 : Below W.heap.size W W2 := by rw [hW2]; exact (Below.refl _ _).alloc (Nat.le_refl _) _
  have aR2 : Av W2 R 125 (tkc tot Ah nh ch Af nf cf 0 0 (.slice none 0 0) false) := by rw [hW2, hR]; exact heap_alloc_new _ _
  have aT2 := aT.below bW2
  have aG2 := aG.below bW2
  have b2 := bW.trans (bW2.mono bW.size)
  have hRw : w.heap.size ≤ R := by omega
  have hTR : T ≠ R := by omega
  have hGR : G ≠ R := by omega
  have hTG : T ≠ G := by omega
  have hTw : w.heap.size ≤ T := by omega
  obtain ⟨q1, q2, q3⟩ := pHt_spec tot ht
  have HHt := fun w' => HeightR tot (pHt tot) q1 (fun j hj => by rw [pWd_of tot j ht (by omega)]; have := q2 j hj; omega) (by rw [pWd_of tot _ ht q1]; omega) w'
  have HV := TVisit fl hs h32 tot Ah nh ch Af nf cf R hnh hnf hnf2 hnh2 ht0 ht w hrh hrf hRw (pHt tot) q1 0 0 0 (pHt_pos tot ht0) (by omega) (by omega) [] (Nat.le_refl _) (.slice none 0 0) W2 b2 aR2 (World.ownsRow_nil _ _ _ _)
  rw [hrd] at HV
  generalize pHt tot = hgt at *
  have hbl := built_tkR tot Ah nh ch Af nf cf
  have c3 := aR2.cell 3 _ rfl
  replace HHt := Lib.hid HHt
  replace HV := Lib.hid HV
  replace hm := Lib.hid hm
  replace hrd := Lib.hid hrd
  replace may := Lib.hid may
  replace hR := Lib.hid hR
  replace hW2 := Lib.hid hW2
  replace hbl := Lib.hid hbl
  replace q2 := Lib.hid q2
  replace hW := Lib.hid hW
  replace hT1 := Lib.hid hT1
  replace hG := Lib.hid hG
  replace hzone := Lib.hid hzone
  replace hnh := Lib.hid hnh
  replace hnf := Lib.hid hnf
  replace sW := Lib.hid sW
  clear _u
  go_enter Tryd.func49, Tryd.ntmps49
  go_upto_region 1 with fail
  rw [← hT1.out]
  rw [show T + 1 = G by rw [hT1.out, hG.out]]
  rw [← hW.out]
  go_upto_region 4 with (first
    | ((with_reducible refine wpList_loadF 26 aT ?_ _ 3 ?_ Tryd.underlying26 ?_ ?_ ?_); rfl; rfl; rfl; kernel_rfl)
    | fail)
  rw [show W.alloc (.cells #[Value.int .u32 (tot : Int), Value.slice Ah nh ch, Value.slice Af nf cf, Value.int .i64 (tot : Int), Value.int .i64 0, Value.int .i64 0, Value.slice none 0 0, Value.bool false] 125) = W2 from hW2.out.symm, ← hR.out]
  go_wp2_with (go_at_call 35; refine (HHt.out _).mono ?_; rintro e w' ⟨rfl, hw'⟩; obtain rfl := hw'.symm)
  refine HV.out.mono ?_
  rintro e w3 ⟨b3, K3, rfl, d3, k3, M3, hd3, hk3, a3⟩
  have t3' := K3.av aT2 (by decide) hTR
  have g3 := K3.av aG2 (by decide) hGR
  have xv : (zs32.map bv).length = 32 := rfl
  have xone : (zs32.map bv).all (·.oneCell') = true := rfl
  replace xv := Lib.hid xv
  replace xone := Lib.hid xone
  clear c0 c1 c2 c3 aT2 aG2 aR2 bW2 HV HHt
  go_upto_region 5 with ((with_reducible refine wpList_storeF 28 (b3.alloc b3.size (.cells (zs32.map bv).toArray 28)) (heap_alloc_new _ _) b3.size (zs32.map bv) ?_ ?_ 32 xv.out ?_ ?_ ?_ ?_); rfl; rfl; kernel_rfl; rfl; exact xone.out; intro w4 x4 b4 k4 z4)
  have hsz4 : w3.heap.size < w4.heap.size := x4.lt
  have hR3 := a3.lt
  have hT3 := t3'.lt
  have hG3 := g3.lt
  have a4 := (a3.alloc (.cells (zs32.map bv).toArray 28)).same (k4 R (by omega))
  have t4' := (t3'.alloc (.cells (zs32.map bv).toArray 28)).same (k4 T (by omega))
  have g4 := (g3.alloc (.cells (zs32.map bv).toArray 28)).same (k4 G (by omega))
  refine wp_region_rel [] Ext (by kernel_rfl) (by kernel_rfl) (by kernel_rfl) Ext.refl Ext.trans (by intro p hp; cases hp) ?_
  refine relMove Ext.refl rfl rfl rfl rfl _ (.inl rfl) (by conv => lhs; whnf) (by simp only [List.set_cons_succ, List.set_cons_zero]; rfl) ?_
  refine relPure Ext.refl rfl rfl rfl rfl (fun w _ => by go_simp; first | done | rfl) (by simp only [List.set_cons_succ, List.set_cons_zero]; rfl) ?_
  refine relPure Ext.refl rfl rfl rfl rfl (fun w _ => by go_simp; first | done | rfl) (by simp only [List.set_cons_succ, List.set_cons_zero]; rfl) ?_
  refine relPure Ext.refl rfl rfl rfl rfl (c := .bool true) (fun w hw => by have := (a4.below hw.drew).cell 7 _ rfl; go_simp; first | done | rfl) (by simp only [List.set_cons_succ, List.set_cons_zero]; rfl) ?_
  refine relMove Ext.refl rfl rfl rfl rfl _ (.inl rfl) (by conv => lhs; whnf) (by simp only [List.set_cons_succ, List.set_cons_zero]; rfl) ?_
  refine relSkip rfl rfl rfl rfl (by simp only [List.set_cons_succ, List.set_cons_zero]; rfl) ?_
  refine relSkip rfl rfl rfl rfl (by simp only [List.set_cons_succ, List.set_cons_zero]; rfl) ?_
  refine relSkip rfl rfl rfl rfl (by simp only [List.set_cons_succ, List.set_cons_zero]; rfl) ?_
  refine relSkip rfl rfl rfl rfl (by simp only [List.set_cons_succ, List.set_cons_zero]; rfl) ?_
  refine relSkip rfl rfl rfl rfl (by simp only [List.set_cons_succ, List.set_cons_zero]; rfl) ?_
  refine relSkip rfl rfl rfl rfl (by simp only [List.set_cons_succ, List.set_cons_zero]; rfl) ?_
  refine relSkip rfl rfl rfl rfl (by simp only [List.set_cons_succ, List.set_cons_zero]; rfl) ?_
  refine relSkip rfl rfl rfl rfl (by simp only [List.set_cons_succ, List.set_cons_zero]; rfl) ?_
  refine relPick Ext.refl rfl rfl rfl rfl _ _ _ rfl rfl (c := .bool true) rfl (by simp only [List.set_cons_succ, List.set_cons_zero]; rfl) ?_
  refine relMove Ext.refl rfl rfl rfl rfl _ (.inl rfl) (by conv => lhs; whnf) (by simp only [List.set_cons_succ, List.set_cons_zero]; rfl) ?_
  refine relSkip rfl rfl rfl rfl (by simp only [List.set_cons_succ, List.set_cons_zero]; rfl) ?_
  refine relSkip rfl rfl rfl rfl (by simp only [List.set_cons_succ, List.set_cons_zero]; rfl) ?_
  refine relSkip rfl rfl rfl rfl (by simp only [List.set_cons_succ, List.set_cons_zero]; rfl) ?_
  refine relSkip rfl rfl rfl rfl (by simp only [List.set_cons_succ, List.set_cons_zero]; rfl) ?_
  refine relSkip rfl rfl rfl rfl (by simp only [List.set_cons_succ, List.set_cons_zero]; rfl) ?_
  refine relSkip rfl rfl rfl rfl (by simp only [List.set_cons_succ, List.set_cons_zero]; rfl) ?_
  refine relSkip rfl rfl rfl rfl (by simp only [List.set_cons_succ, List.set_cons_zero]; rfl) ?_
  refine relSkip rfl rfl rfl rfl (by simp only [List.set_cons_succ, List.set_cons_zero]; rfl) ?_
  refine relSkip rfl rfl rfl rfl (by simp only [List.set_cons_succ, List.set_cons_zero]; rfl) ?_
  refine relSkip rfl rfl rfl rfl (by simp only [List.set_cons_succ, List.set_cons_zero]; rfl) ?_
  refine relPick Ext.refl rfl rfl rfl rfl _ _ _ rfl rfl (c := .bool true) rfl (by simp only [List.set_cons_succ, List.set_cons_zero]; rfl) ?_
  refine relMove Ext.refl rfl rfl rfl rfl _ (.inr rfl) (by conv => lhs; whnf) (by simp only [List.set_cons_succ, List.set_cons_zero]; rfl) ?_
  refine relEnd fun w5 hw5 => fill_end ?_
  have e5 := hw5.drew
  have g5 := g4.below e5
  have b5 := b4.trans (e5.mono b4.size)
  go_wp2
  go_loopw [7] (fun b wr => ∃ c : Nat, c = 0 ∧ b = .bool true ∧ Below w.heap.size w wr ∧ Av wr G 28 (zs32.map bv)) (fun _ _ => 0)
  case atStart => exact ⟨0, rfl, rfl, b5, g5⟩
  case round =>
    clear b5 g5
    obtain ⟨_, _, rfl, b5, g5⟩ := hrel
    go_wp2_with fail
    refine wp_region_rel [] Ext (by kernel_rfl) (by kernel_rfl) (by kernel_rfl) Ext.refl Ext.trans (by intro p hp; cases hp) ?_
    refine relMove Ext.refl rfl rfl rfl rfl _ (.inl rfl) (by conv => lhs; whnf) (by simp only [List.set_cons_succ, List.set_cons_zero]; rfl) ?_
    refine relPure Ext.refl rfl rfl rfl rfl (c := .bool false) (fun w hw => by go_simp; first | done | rfl) (by simp only [List.set_cons_succ, List.set_cons_zero]; rfl) ?_
    refine relMove Ext.refl rfl rfl rfl rfl _ (.inl rfl) (by conv => lhs; whnf) (by simp only [List.set_cons_succ, List.set_cons_zero]; rfl) ?_
    refine relSkip rfl rfl rfl rfl (by simp only [List.set_cons_succ, List.set_cons_zero]; rfl) ?_
    refine relSkip rfl rfl rfl rfl (by simp only [List.set_cons_succ, List.set_cons_zero]; rfl) ?_
    refine relSkip rfl rfl rfl rfl (by simp only [List.set_cons_succ, List.set_cons_zero]; rfl) ?_
    refine relSkip rfl rfl rfl rfl (by simp only [List.set_cons_succ, List.set_cons_zero]; rfl) ?_
    refine relSkip rfl rfl rfl rfl (by simp only [List.set_cons_succ, List.set_cons_zero]; rfl) ?_
    refine relSkip rfl rfl rfl rfl (by simp only [List.set_cons_succ, List.set_cons_zero]; rfl) ?_
    refine relSkip rfl rfl rfl rfl (by simp only [List.set_cons_succ, List.set_cons_zero]; rfl) ?_
    refine relSkip rfl rfl rfl rfl (by simp only [List.set_cons_succ, List.set_cons_zero]; rfl) ?_
    refine relSkip rfl rfl rfl rfl (by simp only [List.set_cons_succ, List.set_cons_zero]; rfl) ?_
    refine relPick Ext.refl rfl rfl rfl rfl _ _ _ rfl rfl (c := .bool false) rfl (by simp only [List.set_cons_succ, List.set_cons_zero]; rfl) ?_
    refine relEnd fun w6 hw6 => fill_end ?_
    have e6 := hw6.drew
    have g6 := g5.below e6
    have b6 := b5.trans (e6.mono b5.size)
    go_wp2_with (first
      | ((with_reducible refine wpList_build (.agg (zs32.map bv).toArray) ?_ ?_); (go_simp; first | done | rfl))
      | ((with_reducible refine wpList_storeFA 28 b6 g6 hGw (zs32.map bv) ?_ ?_ 32 rfl ?_ ?_ ?_ ?_); rfl; rfl; kernel_rfl; rfl; exact hzone.out; intro w9 a9 b9 k9 z9))
    refine bodyPost_ret (v := .tuple #[.agg (hcs zs32), .slice none 0 0, .int .i64 13]) ((results_cellAv2 (C := zs32.map bv) (by rfl) (by rfl) a9 _ Tryd.underlying28 rfl 32 rfl (by kernel_rfl)).trans (by rfl)) (by rfl) ⟨b9, rfl⟩
set_option maxRecDepth 100000 in
set_option maxHeartbeats 8000000 in
theorem ER_hash (fl : List UInt8) (hs : List (List UInt8)) (h32 : All32 hs) (tot : Nat) (Ah : Option Addr) (nh ch : Nat) (Af : Option Addr) (nf cf : Nat) (hnh : hs.length = nh) (hnf : fl.length = nf) (htb : tot < 4294967296) (hnf2 : nf ≤ 10000) (hnh2 : nh ≤ 10000) (hm : pMay tot hs fl = true) (x : List UInt8) (l : List (Nat × List UInt8)) (d k : Nat) (hrd : pRd tot fl hs (pHt tot) 0 0 0 = some ⟨x, l, d, k⟩) (hk : k ≠ nh) (w : World)
    (hrh : Rd w Ah (hcl hs)) (hrf : Rd w Af (fl.map bv)) :
    Calls Tryd.prog 49 #[.agg (trc tot Ah nh ch Af nf cf).toArray] w (ExtPost w none) := by
  have _u := And.intro h32 (And.intro hrh (And.intro hrf (And.intro hnh (And.intro hnf htb))))
  have hz := zeros_32
  rw [show List.replicate 32 (0 : UInt8) = zs32 from rfl] at hz
  obtain ⟨T, hT1⟩ : ∃ T, T = w.heap.size := ⟨_, rfl⟩
  obtain ⟨G, hG⟩ : ∃ G, G = w.heap.size + 1 := ⟨_, rfl⟩
  obtain ⟨W, hW⟩ : ∃ W, W = (w.alloc (.cells (trc tot Ah nh ch Af nf cf).toArray 26)).alloc (.cells (zs32.map bv).toArray 28) := ⟨_, rfl⟩
  have bW : Below w.heap.size w W := by rw [hW]; exact ((Below.refl _ _).alloc (Nat.le_refl _) _).alloc (by simp) _
  have aT : Av W T 26 (trc tot Ah nh ch Af nf cf) := by rw [hW, hT1]; exact Av.newer w (trc tot Ah nh ch Af nf cf) _ _
  have aG : Av W G 28 (zs32.map bv) := by rw [hW, hG, ← World.size_alloc w (.cells (trc tot Ah nh ch Af nf cf).toArray 26)]; exact Av.new _ _ _
  have hGw : w.heap.size ≤ G := by omega
  have hzone : (zs32.map bv).all (·.oneCell') = true := rfl
  have sW : W.heap.size = w.heap.size + 2 := by rw [hW]; simp
  have c0 := aT.cell 0 _ rfl
  have c1 := aT.cell 1 _ rfl
  have c2 := aT.cell 2 _ rfl
  have xb := pRd_bounds tot fl hs h32 _ _ _ _ _ hrd
  have xv : (x.map bv).length = 32 := by rw [List.length_map]; exact xb.2.2.2.2.2.1
  have xone : (x.map bv).all (·.oneCell') = true := List.all_eq_true.2 (bv_one x)
  have hd8 : d ≤ 8 * nf := by rw [← hnf]; exact xb.2.1
  have hkn : k ≤ nh := by rw [← hnh]; exact xb.2.2.2.1
  replace xv := Lib.hid xv
  replace xone := Lib.hid xone
  replace xb := Lib.hid xb
  have tk : ((k : Int) != (nh : Int)) = true := by simp; omega
  replace hk := Lib.hid hk
  have may : tot ≠ 0 ∧ tot ≤ 4096 ∧ nh ≤ tot ∧ nh ≤ 8 * nf := by
    rw [← hnh, ← hnf]
    exact of_decide_eq_true hm
  have ht0 : 0 < tot := by omega
  have ht : tot ≤ 4096 := may.2.1
  have t0 : ((tot : Int) == 0) = false := by simp; omega
  have t1 : decide ((4096 : Int) < (tot : Int)) = false := decide_eq_false (by omega)
  have t2 : decide ((tot : Int) < (nh : Int)) = false := decide_eq_false (by omega)
  have t3 : decide (8 * (nf : Int) < (nh : Int)) = false := decide_eq_false (by omega)
  have h2n : ¬ (tot < nh) := by omega
  have h3n : ¬ (8 * nf < nh) := by omega
  have w8 : IntKind.i64.wrap (8 * (nf : Int)) = 8 * (nf : Int) := by rw [IntKind.wrap_i64]; omega
  have wt : IntKind.i64.wrap (tot : Int) = (tot : Int) := by rw [IntKind.wrap_i64]; omega
  obtain ⟨R, hR⟩ : ∃ R, R = W.heap.size := ⟨_, rfl⟩
  obtain ⟨W2, hW2⟩ : ∃ W2, W2 = W.alloc (.cells (tkc tot Ah nh ch Af nf cf 0 0 (.slice none 0 0) false).toArray 125) := ⟨_, rfl⟩
  have bW2 : Below W.heap.size W W2 := by rw [hW2]; exact (Below.refl _ _).alloc (Nat.le_refl _) _
  have aR2 : Av W2 R 125 (tkc tot Ah nh ch Af nf cf 0 0 (.slice none 0 0) false) := by rw [hW2, hR]; exact heap_alloc_new _ _
  have aT2 := aT.below bW2
  have aG2 := aG.below bW2
  have b2 := bW.trans (bW2.mono bW.size)
  have hRw : w.heap.size ≤ R := by omega
  have hTR : T ≠ R := by omega
  have hGR : G ≠ R := by omega
  have hTG : T ≠ G := by omega
  have hTw : w.heap.size ≤ T := by omega
  obtain ⟨q1, q2, q3⟩ := pHt_spec tot ht
  have HHt := fun w' => HeightR tot (pHt tot) q1 (fun j hj => by rw [pWd_of tot j ht (by omega)]; have := q2 j hj; omega) (by rw [pWd_of tot _ ht q1]; omega) w'
  have HV := TVisit fl hs h32 tot Ah nh ch Af nf cf R hnh hnf hnf2 hnh2 ht0 ht w hrh hrf hRw (pHt tot) q1 0 0 0 (pHt_pos tot ht0) (by omega) (by omega) [] (Nat.le_refl _) (.slice none 0 0) W2 b2 aR2 (World.ownsRow_nil _ _ _ _)
  rw [hrd] at HV
  generalize pHt tot = hgt at *
  have hbl := built_tkR tot Ah nh ch Af nf cf
  have c3 := aR2.cell 3 _ rfl
  replace HHt := Lib.hid HHt
  replace HV := Lib.hid HV
  replace hm := Lib.hid hm
  replace hrd := Lib.hid hrd
  replace may := Lib.hid may
  replace hR := Lib.hid hR
  replace hW2 := Lib.hid hW2
  replace hbl := Lib.hid hbl
  replace q2 := Lib.hid q2
  replace hW := Lib.hid hW
  replace hT1 := Lib.hid hT1
  replace hG := Lib.hid hG
  replace hzone := Lib.hid hzone
  replace hnh := Lib.hid hnh
  replace hnf := Lib.hid hnf
  replace sW := Lib.hid sW
  clear _u
  go_enter Tryd.func49, Tryd.ntmps49
  go_upto_region 1 with fail
  rw [← hT1.out]
  rw [show T + 1 = G by rw [hT1.out, hG.out]]
  rw [← hW.out]
  go_upto_region 4 with (first
    | ((with_reducible refine wpList_loadF 26 aT ?_ _ 3 ?_ Tryd.underlying26 ?_ ?_ ?_); rfl; rfl; rfl; kernel_rfl)
    | fail)
  rw [show W.alloc (.cells #[Value.int .u32 (tot : Int), Value.slice Ah nh ch, Value.slice Af nf cf, Value.int .i64 (tot : Int), Value.int .i64 0, Value.int .i64 0, Value.slice none 0 0, Value.bool false] 125) = W2 from hW2.out.symm, ← hR.out]
  go_wp2_with (go_at_call 35; refine (HHt.out _).mono ?_; rintro e w' ⟨rfl, hw'⟩; obtain rfl := hw'.symm)
  refine HV.out.mono ?_
  rintro e w3 ⟨b3, K3, rfl, M3, a3, o3⟩
  rw [List.length_nil, Nat.zero_add, List.nil_append] at o3
  dsimp only at o3 a3
  have oR := own_ne o3 a3 (by decide)
  obtain ⟨A3, cA, rfl, hcA, _⟩ := own_form o3
  have hAw : ∀ a, A3 = some a → w.heap.size ≤ a.block := fun a e => (World.ownsRow.lt o3 a.block (by rw [e]; rfl)).1
  have hAR : ∀ a, A3 = some a → a.block ≠ R := fun a e h => oR (by rw [e, ← h]; rfl)
  have hAG : ∀ a, A3 = some a → a.block ≠ G := fun a e h => by
    have h1 := hAw a e
    exact own_ne o3 (K3.av aG2 (by decide) hGR) (by decide) (by rw [e, ← h]; rfl)
  have rl3 := own_rd o3
  have hAlt : ∀ a, A3 = some a → a.block < w3.heap.size := fun a e => (World.ownsRow.lt o3 a.block (by rw [e]; rfl)).2
  have t3' := K3.av aT2 (by decide) hTR
  have g3 := K3.av aG2 (by decide) hGR
  replace hAw := Lib.hid hAw
  replace hAR := Lib.hid hAR
  replace hAG := Lib.hid hAG
  replace hAlt := Lib.hid hAlt
  clear c0 c1 c2 c3 aT2 aG2 aR2 bW2 HV HHt o3 oR K3
  go_upto_region 5 with ((with_reducible refine wpList_storeF 28 (b3.alloc b3.size (.cells (zs32.map bv).toArray 28)) (heap_alloc_new _ _) b3.size (x.map bv) ?_ ?_ 32 xv.out ?_ ?_ ?_ ?_); rfl; rfl; kernel_rfl; rfl; exact xone.out; intro w4 x4 b4 k4 z4)
  have hsz4 : w3.heap.size < w4.heap.size := x4.lt
  have hR3 := a3.lt
  have hT3 := t3'.lt
  have hG3 := g3.lt
  have a4 := (a3.alloc (.cells (zs32.map bv).toArray 28)).same (k4 R (by omega))
  have t4' := (t3'.alloc (.cells (zs32.map bv).toArray 28)).same (k4 T (by omega))
  have g4 := (g3.alloc (.cells (zs32.map bv).toArray 28)).same (k4 G (by omega))
  refine wp_region_rel [] Ext (by kernel_rfl) (by kernel_rfl) (by kernel_rfl) Ext.refl Ext.trans (by intro p hp; cases hp) ?_
  refine relMove Ext.refl rfl rfl rfl rfl _ (.inl rfl) (by conv => lhs; whnf) (by simp only [List.set_cons_succ, List.set_cons_zero]; rfl) ?_
  refine relPure Ext.refl rfl rfl rfl rfl (fun w _ => by go_simp; first | done | rfl) (by simp only [List.set_cons_succ, List.set_cons_zero]; rfl) ?_
  refine relPure Ext.refl rfl rfl rfl rfl (fun w _ => by go_simp; first | done | rfl) (by simp only [List.set_cons_succ, List.set_cons_zero]; rfl) ?_
  refine relPure Ext.refl rfl rfl rfl rfl (c := .bool false) (fun w hw => by have := (a4.below hw.drew).cell 7 _ rfl; go_simp; first | done | rfl) (by simp only [List.set_cons_succ, List.set_cons_zero]; rfl) ?_
  refine relMove Ext.refl rfl rfl rfl rfl _ (.inl rfl) (by conv => lhs; whnf) (by simp only [List.set_cons_succ, List.set_cons_zero]; rfl) ?_
  refine relMove Ext.refl rfl rfl rfl rfl _ (.inl rfl) (by conv => lhs; whnf) (by simp only [List.set_cons_succ, List.set_cons_zero]; rfl) ?_
  refine relPure Ext.refl rfl rfl rfl rfl (fun w _ => by go_simp; first | done | rfl) (by simp only [List.set_cons_succ, List.set_cons_zero]; rfl) ?_
  refine relPure Ext.refl rfl rfl rfl rfl (fun w _ => by go_simp; first | done | rfl) (by simp only [List.set_cons_succ, List.set_cons_zero]; rfl) ?_
  refine relPure Ext.refl rfl rfl rfl rfl (c := .int .i64 (k : Int)) (fun w hw => by have := (a4.below hw.drew).cell 5 _ rfl; go_simp; first | done | rfl) (by simp only [List.set_cons_succ, List.set_cons_zero]; rfl) ?_
  refine relPure Ext.refl rfl rfl rfl rfl (fun w _ => by go_simp; first | done | rfl) (by simp only [List.set_cons_succ, List.set_cons_zero]; rfl) ?_
  refine relPure Ext.refl rfl rfl rfl rfl (c := .slice Ah nh ch) (fun w hw => by have := (t4'.below hw.drew).cell 1 _ rfl; go_simp; first | done | rfl) (by simp only [List.set_cons_succ, List.set_cons_zero]; rfl) ?_
  refine relPure Ext.refl rfl rfl rfl rfl (fun w _ => by go_simp; first | done | rfl) (by simp only [List.set_cons_succ, List.set_cons_zero]; rfl) ?_
  refine relPure Ext.refl rfl rfl rfl rfl (c := .bool true) (fun w hw => by go_simp; first | done | rfl) (by simp only [List.set_cons_succ, List.set_cons_zero]; rfl) ?_
  refine relPick Ext.refl rfl rfl rfl rfl _ _ _ rfl rfl (c := .bool true) rfl (by simp only [List.set_cons_succ, List.set_cons_zero]; rfl) ?_
  refine relMove Ext.refl rfl rfl rfl rfl _ (.inl rfl) (by conv => lhs; whnf) (by simp only [List.set_cons_succ, List.set_cons_zero]; rfl) ?_
  refine relSkip rfl rfl rfl rfl (by simp only [List.set_cons_succ, List.set_cons_zero]; rfl) ?_
  refine relSkip rfl rfl rfl rfl (by simp only [List.set_cons_succ, List.set_cons_zero]; rfl) ?_
  refine relSkip rfl rfl rfl rfl (by simp only [List.set_cons_succ, List.set_cons_zero]; rfl) ?_
  refine relSkip rfl rfl rfl rfl (by simp only [List.set_cons_succ, List.set_cons_zero]; rfl) ?_
  refine relSkip rfl rfl rfl rfl (by simp only [List.set_cons_succ, List.set_cons_zero]; rfl) ?_
  refine relSkip rfl rfl rfl rfl (by simp only [List.set_cons_succ, List.set_cons_zero]; rfl) ?_
  refine relSkip rfl rfl rfl rfl (by simp only [List.set_cons_succ, List.set_cons_zero]; rfl) ?_
  refine relSkip rfl rfl rfl rfl (by simp only [List.set_cons_succ, List.set_cons_zero]; rfl) ?_
  refine relSkip rfl rfl rfl rfl (by simp only [List.set_cons_succ, List.set_cons_zero]; rfl) ?_
  refine relSkip rfl rfl rfl rfl (by simp only [List.set_cons_succ, List.set_cons_zero]; rfl) ?_
  refine relPick Ext.refl rfl rfl rfl rfl _ _ _ rfl rfl (c := .bool true) rfl (by simp only [List.set_cons_succ, List.set_cons_zero]; rfl) ?_
  refine relMove Ext.refl rfl rfl rfl rfl _ (.inr rfl) (by conv => lhs; whnf) (by simp only [List.set_cons_succ, List.set_cons_zero]; rfl) ?_
  refine relEnd fun w5 hw5 => fill_end ?_
  have e5 := hw5.drew
  have g5 := g4.below e5
  have b5 := b4.trans (e5.mono b4.size)
  go_wp2
  go_loopw [7] (fun b wr => ∃ c : Nat, c = 0 ∧ b = .bool true ∧ Below w.heap.size w wr ∧ Av wr G 28 (zs32.map bv)) (fun _ _ => 0)
  case atStart => exact ⟨0, rfl, rfl, b5, g5⟩
  case round =>
    clear b5 g5
    obtain ⟨_, _, rfl, b5, g5⟩ := hrel
    go_wp2_with fail
    refine wp_region_rel [] Ext (by kernel_rfl) (by kernel_rfl) (by kernel_rfl) Ext.refl Ext.trans (by intro p hp; cases hp) ?_
    refine relMove Ext.refl rfl rfl rfl rfl _ (.inl rfl) (by conv => lhs; whnf) (by simp only [List.set_cons_succ, List.set_cons_zero]; rfl) ?_
    refine relPure Ext.refl rfl rfl rfl rfl (c := .bool false) (fun w hw => by go_simp; first | done | rfl) (by simp only [List.set_cons_succ, List.set_cons_zero]; rfl) ?_
    refine relMove Ext.refl rfl rfl rfl rfl _ (.inl rfl) (by conv => lhs; whnf) (by simp only [List.set_cons_succ, List.set_cons_zero]; rfl) ?_
    refine relSkip rfl rfl rfl rfl (by simp only [List.set_cons_succ, List.set_cons_zero]; rfl) ?_
    refine relSkip rfl rfl rfl rfl (by simp only [List.set_cons_succ, List.set_cons_zero]; rfl) ?_
    refine relSkip rfl rfl rfl rfl (by simp only [List.set_cons_succ, List.set_cons_zero]; rfl) ?_
    refine relSkip rfl rfl rfl rfl (by simp only [List.set_cons_succ, List.set_cons_zero]; rfl) ?_
    refine relSkip rfl rfl rfl rfl (by simp only [List.set_cons_succ, List.set_cons_zero]; rfl) ?_
    refine relSkip rfl rfl rfl rfl (by simp only [List.set_cons_succ, List.set_cons_zero]; rfl) ?_
    refine relSkip rfl rfl rfl rfl (by simp only [List.set_cons_succ, List.set_cons_zero]; rfl) ?_
    refine relSkip rfl rfl rfl rfl (by simp only [List.set_cons_succ, List.set_cons_zero]; rfl) ?_
    refine relSkip rfl rfl rfl rfl (by simp only [List.set_cons_succ, List.set_cons_zero]; rfl) ?_
    refine relPick Ext.refl rfl rfl rfl rfl _ _ _ rfl rfl (c := .bool false) rfl (by simp only [List.set_cons_succ, List.set_cons_zero]; rfl) ?_
    refine relEnd fun w6 hw6 => fill_end ?_
    have e6 := hw6.drew
    have g6 := g5.below e6
    have b6 := b5.trans (e6.mono b5.size)
    go_wp2_with (first
      | ((with_reducible refine wpList_build (.agg (zs32.map bv).toArray) ?_ ?_); (go_simp; first | done | rfl))
      | ((with_reducible refine wpList_storeFA 28 b6 g6 hGw (zs32.map bv) ?_ ?_ 32 rfl ?_ ?_ ?_ ?_); rfl; rfl; kernel_rfl; rfl; exact hzone.out; intro w9 a9 b9 k9 z9))
    refine bodyPost_ret (v := .tuple #[.agg (hcs zs32), .slice none 0 0, .int .i64 13]) ((results_cellAv2 (C := zs32.map bv) (by rfl) (by rfl) a9 _ Tryd.underlying28 rfl 32 rfl (by kernel_rfl)).trans (by rfl)) (by rfl) ⟨b9, rfl⟩
set_option maxRecDepth 100000 in
set_option maxHeartbeats 8000000 in
theorem ER_good (fl : List UInt8) (hs : List (List UInt8)) (h32 : All32 hs) (tot : Nat) (Ah : Option Addr) (nh ch : Nat) (Af : Option Addr) (nf cf : Nat) (hnh : hs.length = nh) (hnf : fl.length = nf) (htb : tot < 4294967296) (hnf2 : nf ≤ 10000) (hnh2 : nh ≤ 10000) (hm : pMay tot hs fl = true) (x : List UInt8) (l : List (Nat × List UInt8)) (d k : Nat) (hrd : pRd tot fl hs (pHt tot) 0 0 0 = some ⟨x, l, d, k⟩) (hk : k = nh) (ans : Option PRes) (hans : ans = if (d + 7) / 8 = nf ∧ pRest fl d = true then some ⟨x, l, d, k⟩ else none) (w : World)
    (hrh : Rd w Ah (hcl hs)) (hrf : Rd w Af (fl.map bv)) :
    Calls Tryd.prog 49 #[.agg (trc tot Ah nh ch Af nf cf).toArray] w (ExtPost w ans) := by
  have _u := And.intro h32 (And.intro hrh (And.intro hrf (And.intro hnh (And.intro hnf htb))))
  have hz := zeros_32
  rw [show List.replicate 32 (0 : UInt8) = zs32 from rfl] at hz
  obtain ⟨T, hT1⟩ : ∃ T, T = w.heap.size := ⟨_, rfl⟩
  obtain ⟨G, hG⟩ : ∃ G, G = w.heap.size + 1 := ⟨_, rfl⟩
  obtain ⟨W, hW⟩ : ∃ W, W = (w.alloc (.cells (trc tot Ah nh ch Af nf cf).toArray 26)).alloc (.cells (zs32.map bv).toArray 28) := ⟨_, rfl⟩
  have bW : Below w.heap.size w W := by rw [hW]; exact ((Below.refl _ _).alloc (Nat.le_refl _) _).alloc (by simp) _
  have aT : Av W T 26 (trc tot Ah nh ch Af nf cf) := by rw [hW, hT1]; exact Av.newer w (trc tot Ah nh ch Af nf cf) _ _
  have aG : Av W G 28 (zs32.map bv) := by rw [hW, hG, ← World.size_alloc w (.cells (trc tot Ah nh ch Af nf cf).toArray 26)]; exact Av.new _ _ _
  have hGw : w.heap.size ≤ G := by omega
  have hzone : (zs32.map bv).all (·.oneCell') = true := rfl
  have sW : W.heap.size = w.heap.size + 2 := by rw [hW]; simp
  have c0 := aT.cell 0 _ rfl
  have c1 := aT.cell 1 _ rfl
  have c2 := aT.cell 2 _ rfl
  have xb := pRd_bounds tot fl hs h32 _ _ _ _ _ hrd
  have xv : (x.map bv).length = 32 := by rw [List.length_map]; exact xb.2.2.2.2.2.1
  have xone : (x.map bv).all (·.oneCell') = true := List.all_eq_true.2 (bv_one x)
  have hd8 : d ≤ 8 * nf := by rw [← hnf]; exact xb.2.1
  have hkn : k ≤ nh := by rw [← hnh]; exact xb.2.2.2.1
  replace xv := Lib.hid xv
  replace xone := Lib.hid xone
  replace xb := Lib.hid xb
  have tk : ((k : Int) != (nh : Int)) = false := by simp; omega
  obtain ⟨s, hs7⟩ : ∃ s, s = (d + 7) / 8 := ⟨_, rfl⟩
  have hs8 : ((d : Int) + 7) / 8 = (s : Int) := by omega
  have wd : IntKind.i64.wrap ((d : Int) + 7) = (d : Int) + 7 := by rw [IntKind.wrap_i64]; omega
  have ws : IntKind.i64.wrap (((d : Int) + 7).tdiv 8) = (s : Int) := by rw [Int.tdiv_eq_ediv_of_nonneg (by omega), IntKind.wrap_i64]; omega
  obtain ⟨q, hq⟩ : ∃ q, q = ((s : Int) != (nf : Int)) := ⟨_, rfl⟩
  have hbeg : ans = if q then none else if rstB fl nf d then some ⟨x, l, d, k⟩ else none := by
    rw [hans, hq]
    by_cases e : s = nf
    · have e1 : ((s : Int) != (nf : Int)) = false := by simp; omega
      rw [e1, rstB_rest fl nf d (by omega)]
      cases pRest fl d <;> simp <;> omega
    · have e1 : ((s : Int) != (nf : Int)) = true := by simp; omega
      rw [e1, if_neg (by omega)]
      rfl
  have hq' := hq.symm
  have hNX := fun (c : Nat) (b : Bool) (h : pDig fl c = some b) (hc : c ≤ 1000000) (w' : World) => fun M R' => TNext fl b tot Ah nh ch Af nf cf c k R' M false hnf hnf2 h hc w'
  replace hans := Lib.hid hans
  replace hs7 := Lib.hid hs7
  replace hq := Lib.hid hq
  replace hbeg := Lib.hid hbeg
  replace hNX := Lib.hid hNX
  replace hk := Lib.hid hk
  have may : tot ≠ 0 ∧ tot ≤ 4096 ∧ nh ≤ tot ∧ nh ≤ 8 * nf := by
    rw [← hnh, ← hnf]
    exact of_decide_eq_true hm
  have ht0 : 0 < tot := by omega
  have ht : tot ≤ 4096 := may.2.1
  have t0 : ((tot : Int) == 0) = false := by simp; omega
  have t1 : decide ((4096 : Int) < (tot : Int)) = false := decide_eq_false (by omega)
  have t2 : decide ((tot : Int) < (nh : Int)) = false := decide_eq_false (by omega)
  have t3 : decide (8 * (nf : Int) < (nh : Int)) = false := decide_eq_false (by omega)
  have h2n : ¬ (tot < nh) := by omega
  have h3n : ¬ (8 * nf < nh) := by omega
  have w8 : IntKind.i64.wrap (8 * (nf : Int)) = 8 * (nf : Int) := by rw [IntKind.wrap_i64]; omega
  have wt : IntKind.i64.wrap (tot : Int) = (tot : Int) := by rw [IntKind.wrap_i64]; omega
  obtain ⟨R, hR⟩ : ∃ R, R = W.heap.size := ⟨_, rfl⟩
  obtain ⟨W2, hW2⟩ : ∃ W2, W2 = W.alloc (.cells (tkc tot Ah nh ch Af nf cf 0 0 (.slice none 0 0) false).toArray 125) := ⟨_, rfl⟩
  have bW2 : Below W.heap.size W W2 := by rw [hW2]; exact (Below.refl _ _).alloc (Nat.le_refl _) _
  have aR2 : Av W2 R 125 (tkc tot Ah nh ch Af nf cf 0 0 (.slice none 0 0) false) := by rw [hW2, hR]; exact heap_alloc_new _ _
  have aT2 := aT.below bW2
  have aG2 := aG.below bW2
  have b2 := bW.trans (bW2.mono bW.size)
  have hRw : w.heap.size ≤ R := by omega
  have hTR : T ≠ R := by omega
  have hGR : G ≠ R := by omega
  have hTG : T ≠ G := by omega
  have hTw : w.heap.size ≤ T := by omega
  obtain ⟨q1, q2, q3⟩ := pHt_spec tot ht
  have HHt := fun w' => HeightR tot (pHt tot) q1 (fun j hj => by rw [pWd_of tot j ht (by omega)]; have := q2 j hj; omega) (by rw [pWd_of tot _ ht q1]; omega) w'
  have HV := TVisit fl hs h32 tot Ah nh ch Af nf cf R hnh hnf hnf2 hnh2 ht0 ht w hrh hrf hRw (pHt tot) q1 0 0 0 (pHt_pos tot ht0) (by omega) (by omega) [] (Nat.le_refl _) (.slice none 0 0) W2 b2 aR2 (World.ownsRow_nil _ _ _ _)
  rw [hrd] at HV
  generalize pHt tot = hgt at *
  have hbl := built_tkR tot Ah nh ch Af nf cf
  have c3 := aR2.cell 3 _ rfl
  replace HHt := Lib.hid HHt
  replace HV := Lib.hid HV
  replace hm := Lib.hid hm
  replace hrd := Lib.hid hrd
  replace may := Lib.hid may
  replace hR := Lib.hid hR
  replace hW2 := Lib.hid hW2
  replace hbl := Lib.hid hbl
  replace q2 := Lib.hid q2
  replace hW := Lib.hid hW
  replace hT1 := Lib.hid hT1
  replace hG := Lib.hid hG
  replace hzone := Lib.hid hzone
  replace hnh := Lib.hid hnh
  replace hnf := Lib.hid hnf
  replace sW := Lib.hid sW
  clear _u
  go_enter Tryd.func49, Tryd.ntmps49
  go_upto_region 1 with fail
  rw [← hT1.out]
  rw [show T + 1 = G by rw [hT1.out, hG.out]]
  rw [← hW.out]
  go_upto_region 4 with (first
    | ((with_reducible refine wpList_loadF 26 aT ?_ _ 3 ?_ Tryd.underlying26 ?_ ?_ ?_); rfl; rfl; rfl; kernel_rfl)
    | fail)
  rw [show W.alloc (.cells #[Value.int .u32 (tot : Int), Value.slice Ah nh ch, Value.slice Af nf cf, Value.int .i64 (tot : Int), Value.int .i64 0, Value.int .i64 0, Value.slice none 0 0, Value.bool false] 125) = W2 from hW2.out.symm, ← hR.out]
  go_wp2_with (go_at_call 35; refine (HHt.out _).mono ?_; rintro e w' ⟨rfl, hw'⟩; obtain rfl := hw'.symm)
  refine HV.out.mono ?_
  rintro e w3 ⟨b3, K3, rfl, M3, a3, o3⟩
  rw [List.length_nil, Nat.zero_add, List.nil_append] at o3
  dsimp only at o3 a3
  have oR := own_ne o3 a3 (by decide)
  obtain ⟨A3, cA, rfl, hcA, _⟩ := own_form o3
  have hAw : ∀ a, A3 = some a → w.heap.size ≤ a.block := fun a e => (World.ownsRow.lt o3 a.block (by rw [e]; rfl)).1
  have hAR : ∀ a, A3 = some a → a.block ≠ R := fun a e h => oR (by rw [e, ← h]; rfl)
  have hAG : ∀ a, A3 = some a → a.block ≠ G := fun a e h => by
    have h1 := hAw a e
    exact own_ne o3 (K3.av aG2 (by decide) hGR) (by decide) (by rw [e, ← h]; rfl)
  have rl3 := own_rd o3
  have hAlt : ∀ a, A3 = some a → a.block < w3.heap.size := fun a e => (World.ownsRow.lt o3 a.block (by rw [e]; rfl)).2
  have t3' := K3.av aT2 (by decide) hTR
  have g3 := K3.av aG2 (by decide) hGR
  replace hAw := Lib.hid hAw
  replace hAR := Lib.hid hAR
  replace hAG := Lib.hid hAG
  replace hAlt := Lib.hid hAlt
  clear c0 c1 c2 c3 aT2 aG2 aR2 bW2 HV HHt o3 oR K3
  go_upto_region 5 with ((with_reducible refine wpList_storeF 28 (b3.alloc b3.size (.cells (zs32.map bv).toArray 28)) (heap_alloc_new _ _) b3.size (x.map bv) ?_ ?_ 32 xv.out ?_ ?_ ?_ ?_); rfl; rfl; kernel_rfl; rfl; exact xone.out; intro w4 x4 b4 k4 z4)
  have hsz4 : w3.heap.size < w4.heap.size := x4.lt
  have hR3 := a3.lt
  have hT3 := t3'.lt
  have hG3 := g3.lt
  have a4 := (a3.alloc (.cells (zs32.map bv).toArray 28)).same (k4 R (by omega))
  have t4' := (t3'.alloc (.cells (zs32.map bv).toArray 28)).same (k4 T (by omega))
  have g4 := (g3.alloc (.cells (zs32.map bv).toArray 28)).same (k4 G (by omega))
  refine wp_region_rel [] Ext (by kernel_rfl) (by kernel_rfl) (by kernel_rfl) Ext.refl Ext.trans (by intro p hp; cases hp) ?_
  refine relMove Ext.refl rfl rfl rfl rfl _ (.inl rfl) (by conv => lhs; whnf) (by simp only [List.set_cons_succ, List.set_cons_zero]; rfl) ?_
  refine relPure Ext.refl rfl rfl rfl rfl (fun w _ => by go_simp; first | done | rfl) (by simp only [List.set_cons_succ, List.set_cons_zero]; rfl) ?_
  refine relPure Ext.refl rfl rfl rfl rfl (fun w _ => by go_simp; first | done | rfl) (by simp only [List.set_cons_succ, List.set_cons_zero]; rfl) ?_
  refine relPure Ext.refl rfl rfl rfl rfl (c := .bool false) (fun w hw => by have := (a4.below hw.drew).cell 7 _ rfl; go_simp; first | done | rfl) (by simp only [List.set_cons_succ, List.set_cons_zero]; rfl) ?_
  refine relMove Ext.refl rfl rfl rfl rfl _ (.inl rfl) (by conv => lhs; whnf) (by simp only [List.set_cons_succ, List.set_cons_zero]; rfl) ?_
  refine relMove Ext.refl rfl rfl rfl rfl _ (.inl rfl) (by conv => lhs; whnf) (by simp only [List.set_cons_succ, List.set_cons_zero]; rfl) ?_
  refine relPure Ext.refl rfl rfl rfl rfl (fun w _ => by go_simp; first | done | rfl) (by simp only [List.set_cons_succ, List.set_cons_zero]; rfl) ?_
  refine relPure Ext.refl rfl rfl rfl rfl (fun w _ => by go_simp; first | done | rfl) (by simp only [List.set_cons_succ, List.set_cons_zero]; rfl) ?_
  refine relPure Ext.refl rfl rfl rfl rfl (c := .int .i64 (k : Int)) (fun w hw => by have := (a4.below hw.drew).cell 5 _ rfl; go_simp; first | done | rfl) (by simp only [List.set_cons_succ, List.set_cons_zero]; rfl) ?_
  refine relPure Ext.refl rfl rfl rfl rfl (fun w _ => by go_simp; first | done | rfl) (by simp only [List.set_cons_succ, List.set_cons_zero]; rfl) ?_
  refine relPure Ext.refl rfl rfl rfl rfl (c := .slice Ah nh ch) (fun w hw => by have := (t4'.below hw.drew).cell 1 _ rfl; go_simp; first | done | rfl) (by simp only [List.set_cons_succ, List.set_cons_zero]; rfl) ?_
  refine relPure Ext.refl rfl rfl rfl rfl (fun w _ => by go_simp; first | done | rfl) (by simp only [List.set_cons_succ, List.set_cons_zero]; rfl) ?_
  refine relPure Ext.refl rfl rfl rfl rfl (c := .bool false) (fun w hw => by go_simp; first | done | rfl) (by simp only [List.set_cons_succ, List.set_cons_zero]; rfl) ?_
  refine relPick Ext.refl rfl rfl rfl rfl _ _ _ rfl rfl (c := .bool false) rfl (by simp only [List.set_cons_succ, List.set_cons_zero]; rfl) ?_
  refine relMove Ext.refl rfl rfl rfl rfl _ (.inl rfl) (by conv => lhs; whnf) (by simp only [List.set_cons_succ, List.set_cons_zero]; rfl) ?_
  refine relMove Ext.refl rfl rfl rfl rfl _ (.inl rfl) (by conv => lhs; whnf) (by simp only [List.set_cons_succ, List.set_cons_zero]; rfl) ?_
  refine relPure Ext.refl rfl rfl rfl rfl (fun w _ => by go_simp; first | done | rfl) (by simp only [List.set_cons_succ, List.set_cons_zero]; rfl) ?_
  refine relPure Ext.refl rfl rfl rfl rfl (fun w _ => by go_simp; first | done | rfl) (by simp only [List.set_cons_succ, List.set_cons_zero]; rfl) ?_
  refine relPure Ext.refl rfl rfl rfl rfl (c := .int .i64 (d : Int)) (fun w hw => by have := (a4.below hw.drew).cell 4 _ rfl; go_simp; first | done | rfl) (by simp only [List.set_cons_succ, List.set_cons_zero]; rfl) ?_
  refine relPure Ext.refl rfl rfl rfl rfl (c := .int .i64 ((d : Int) + 7)) (fun w hw => by have := wd; go_simp; first | done | rfl) (by simp only [List.set_cons_succ, List.set_cons_zero]; rfl) ?_
  refine relPure Ext.refl rfl rfl rfl rfl (c := .int .i64 (s : Int)) (fun w hw => by have := ws; go_simp; first | done | rfl) (by simp only [List.set_cons_succ, List.set_cons_zero]; rfl) ?_
  refine relPure Ext.refl rfl rfl rfl rfl (fun w _ => by go_simp; first | done | rfl) (by simp only [List.set_cons_succ, List.set_cons_zero]; rfl) ?_
  refine relPure Ext.refl rfl rfl rfl rfl (c := .slice Af nf cf) (fun w hw => by have := (t4'.below hw.drew).cell 2 _ rfl; go_simp; first | done | rfl) (by simp only [List.set_cons_succ, List.set_cons_zero]; rfl) ?_
  refine relPure Ext.refl rfl rfl rfl rfl (fun w _ => by go_simp; first | done | rfl) (by simp only [List.set_cons_succ, List.set_cons_zero]; rfl) ?_
  refine relPure Ext.refl rfl rfl rfl rfl (c := .bool q) (fun w hw => by go_simp; first | done | rfl) (by simp only [List.set_cons_succ, List.set_cons_zero]; rfl) ?_
  refine relPick Ext.refl rfl rfl rfl rfl _ _ _ rfl rfl (c := .bool q) rfl (by simp only [List.set_cons_succ, List.set_cons_zero]; rfl) ?_
  refine relMove Ext.refl rfl rfl rfl rfl _ (.inr rfl) (by conv => lhs; whnf) (by simp only [List.set_cons_succ, List.set_cons_zero]; rfl) ?_
  refine relEnd fun w5 hw5 => fill_end ?_
  have e5 := hw5.drew
  have g5 := g4.below e5
  have a5 := a4.below e5
  have t5 := t4'.below e5
  have x5 := x4.below e5
  have b5 := b4.trans (e5.mono b4.size)
  have rl5 := ((rl3.below ((Below.refl w3.heap.size w3).alloc (Nat.le_refl _) (.cells (zs32.map bv).toArray 28))).setO (fun a ha => k4 a.block (by have := hAlt.out a ha; omega))).below e5
  obtain ⟨Hx, hHx⟩ : ∃ Hx, Hx = w3.heap.size := ⟨_, rfl⟩
  rw [← hHx] at x5 ⊢
  have hHR : Hx ≠ R := by rw [hHx]; omega
  have hHG : Hx ≠ G := by rw [hHx]; omega
  replace hHx := Lib.hid hHx
  clear a4 t4' g4 b4 k4 z4 hw5 e5 x4 a3 t3' g3 b3 rl3
  go_wp2
  go_loopw [7] (fun b wr => ∃ (c : Nat) (g : Bool), d ≤ c ∧ c ≤ 8 * nf ∧ b = .bool g ∧ (ans = if g then none else if rstB fl nf c then some ⟨x, l, d, k⟩ else none) ∧ Below w.heap.size w wr ∧ Av wr G 28 (zs32.map bv) ∧ Av wr Hx 28 (x.map bv) ∧ Av wr T 26 (trc tot Ah nh ch Af nf cf) ∧ Av wr R 125 (tkc tot Ah nh ch Af nf cf c k (.slice A3 l.length cA) false) ∧ Rd wr A3 (mlc l)) (fun _ wr => 8 * nf - cellNat wr ⟨R, 4, none⟩)
  case atStart => exact ⟨d, q, Nat.le_refl _, hd8, rfl, hbeg.out, b5, g5, x5, t5, a5, rl5⟩
  case round =>
    clear b5 g5 x5 t5 a5 rl5
    obtain ⟨c, g, hdc, hc8, rfl, hh, b5, g5, x5, t5, a5, rl5⟩ := hrel
    replace hh := Lib.hid hh
    cases g with
    | true =>
      have hh2 : ans = none := hh.out
      subst hh2
      go_wp2_with fail
      refine wp_region_rel [] Ext (by kernel_rfl) (by kernel_rfl) (by kernel_rfl) Ext.refl Ext.trans (by intro p hp; cases hp) ?_
      refine relMove Ext.refl rfl rfl rfl rfl _ (.inl rfl) (by conv => lhs; whnf) (by simp only [List.set_cons_succ, List.set_cons_zero]; rfl) ?_
      refine relPure Ext.refl rfl rfl rfl rfl (c := .bool false) (fun w hw => by go_simp; first | done | rfl) (by simp only [List.set_cons_succ, List.set_cons_zero]; rfl) ?_
      refine relMove Ext.refl rfl rfl rfl rfl _ (.inl rfl) (by conv => lhs; whnf) (by simp only [List.set_cons_succ, List.set_cons_zero]; rfl) ?_
      refine relSkip rfl rfl rfl rfl (by simp only [List.set_cons_succ, List.set_cons_zero]; rfl) ?_
      refine relSkip rfl rfl rfl rfl (by simp only [List.set_cons_succ, List.set_cons_zero]; rfl) ?_
      refine relSkip rfl rfl rfl rfl (by simp only [List.set_cons_succ, List.set_cons_zero]; rfl) ?_
      refine relSkip rfl rfl rfl rfl (by simp only [List.set_cons_succ, List.set_cons_zero]; rfl) ?_
      refine relSkip rfl rfl rfl rfl (by simp only [List.set_cons_succ, List.set_cons_zero]; rfl) ?_
      refine relSkip rfl rfl rfl rfl (by simp only [List.set_cons_succ, List.set_cons_zero]; rfl) ?_
      refine relSkip rfl rfl rfl rfl (by simp only [List.set_cons_succ, List.set_cons_zero]; rfl) ?_
      refine relSkip rfl rfl rfl rfl (by simp only [List.set_cons_succ, List.set_cons_zero]; rfl) ?_
      refine relSkip rfl rfl rfl rfl (by simp only [List.set_cons_succ, List.set_cons_zero]; rfl) ?_
      refine relPick Ext.refl rfl rfl rfl rfl _ _ _ rfl rfl (c := .bool false) rfl (by simp only [List.set_cons_succ, List.set_cons_zero]; rfl) ?_
      refine relEnd fun w6 hw6 => fill_end ?_
      have e6 := hw6.drew
      have g6 := g5.below e6
      have b6 := b5.trans (e6.mono b5.size)
      go_wp2_with (first
        | ((with_reducible refine wpList_build (.agg (zs32.map bv).toArray) ?_ ?_); (go_simp; first | done | rfl))
        | ((with_reducible refine wpList_storeFA 28 b6 g6 hGw (zs32.map bv) ?_ ?_ 32 rfl ?_ ?_ ?_ ?_); rfl; rfl; kernel_rfl; rfl; exact hzone.out; intro w9 a9 b9 k9 z9))
      refine bodyPost_ret (v := .tuple #[.agg (hcs zs32), .slice none 0 0, .int .i64 13]) ((results_cellAv2 (C := zs32.map bv) (by rfl) (by rfl) a9 _ Tryd.underlying28 rfl 32 rfl (by kernel_rfl)).trans (by rfl)) (by rfl) ⟨b9, rfl⟩
    | false =>
      by_cases hlt : c < 8 * nf
      · have tl : decide ((c : Int) < 8 * (nf : Int)) = true := by simp; omega
        obtain ⟨dg, hdg⟩ : ∃ dg, pDig fl c = some dg := ⟨_, pDig_get (by rw [hnf.out]; exact hlt)⟩
        have hNX2 := fun w' => hNX.out c dg hdg (by omega) w' (.slice A3 l.length cA) R
        have hst := rstB_step fl nf c dg hlt hdg
        replace hst := Lib.hid hst
        replace hdg := Lib.hid hdg
        replace hNX2 := Lib.hid hNX2
        go_wp2_with fail
        refine wp_region_rel [] Ext (by kernel_rfl) (by kernel_rfl) (by kernel_rfl) Ext.refl Ext.trans (by intro p hp; cases hp) ?_
        refine relMove Ext.refl rfl rfl rfl rfl _ (.inl rfl) (by conv => lhs; whnf) (by simp only [List.set_cons_succ, List.set_cons_zero]; rfl) ?_
        refine relPure Ext.refl rfl rfl rfl rfl (c := .bool true) (fun w hw => by go_simp; first | done | rfl) (by simp only [List.set_cons_succ, List.set_cons_zero]; rfl) ?_
        refine relMove Ext.refl rfl rfl rfl rfl _ (.inl rfl) (by conv => lhs; whnf) (by simp only [List.set_cons_succ, List.set_cons_zero]; rfl) ?_
        refine relMove Ext.refl rfl rfl rfl rfl _ (.inl rfl) (by conv => lhs; whnf) (by simp only [List.set_cons_succ, List.set_cons_zero]; rfl) ?_
        refine relPure Ext.refl rfl rfl rfl rfl (fun w _ => by go_simp; first | done | rfl) (by simp only [List.set_cons_succ, List.set_cons_zero]; rfl) ?_
        refine relPure Ext.refl rfl rfl rfl rfl (fun w _ => by go_simp; first | done | rfl) (by simp only [List.set_cons_succ, List.set_cons_zero]; rfl) ?_
        refine relPure Ext.refl rfl rfl rfl rfl (c := .int .i64 (c : Int)) (fun w hw => by have := (a5.below hw.drew).cell 4 _ rfl; go_simp; first | done | rfl) (by simp only [List.set_cons_succ, List.set_cons_zero]; rfl) ?_
        refine relPure Ext.refl rfl rfl rfl rfl (fun w _ => by go_simp; first | done | rfl) (by simp only [List.set_cons_succ, List.set_cons_zero]; rfl) ?_
        refine relPure Ext.refl rfl rfl rfl rfl (c := .slice Af nf cf) (fun w hw => by have := (t5.below hw.drew).cell 2 _ rfl; go_simp; first | done | rfl) (by simp only [List.set_cons_succ, List.set_cons_zero]; rfl) ?_
        refine relPure Ext.refl rfl rfl rfl rfl (fun w _ => by go_simp; first | done | rfl) (by simp only [List.set_cons_succ, List.set_cons_zero]; rfl) ?_
        refine relPure Ext.refl rfl rfl rfl rfl (c := .int .i64 (8 * (nf : Int))) (fun w hw => by go_simp; first | done | rfl) (by simp only [List.set_cons_succ, List.set_cons_zero]; rfl) ?_
        refine relPure Ext.refl rfl rfl rfl rfl (c := .bool true) (fun w hw => by go_simp; first | done | rfl) (by simp only [List.set_cons_succ, List.set_cons_zero]; rfl) ?_
        refine relPick Ext.refl rfl rfl rfl rfl _ _ _ rfl rfl (c := .bool true) rfl (by simp only [List.set_cons_succ, List.set_cons_zero]; rfl) ?_
        refine relEnd fun w6 hw6 => fill_end ?_
        have e6 := hw6.drew
        have b6 := b5.trans (e6.mono b5.size)
        have a6 := a5.below e6
        go_wp2_with (go_at_call 67; refine (hNX2.out w6 a6 (hrf.below b6)).mono ?_; rintro e w7 ⟨rfl, a7, f7⟩)
        have hm7 : cellNat w7 ⟨R, 4, none⟩ = c + 1 := by rw [cellNat_of (a7.cell 4 _ rfl)]; omega
        go_roundw
        case rel => exact ⟨c + 1, dg, by omega, by omega, rfl, by
          have := hh.out
          rw [hst.out] at this
          cases dg
          · exact this
          · exact this, b6.trans (f7.below (fun j h => by rw [h]; exact hRw) b6.size), f7.av (g5.below e6) hGR, f7.av (x5.below e6) hHR, f7.av (t5.below e6) hTR, a7, f7.rd (rl5.below e6) hAR.out⟩
        case measure =>
          rw [hm7]
          have : cellNat wr ⟨R, 4, none⟩ = c := by rw [cellNat_of (a5.cell 4 _ rfl)]; simp
          omega
      · have tl : decide ((c : Int) < 8 * (nf : Int)) = false := by simp; omega
        have hh2 : ans = some ⟨x, l, d, k⟩ := by
          rw [hh.out, rstB_end fl nf c (by omega)]
          rfl
        subst hh2
        go_wp2_with fail
        refine wp_region_rel [] Ext (by kernel_rfl) (by kernel_rfl) (by kernel_rfl) Ext.refl Ext.trans (by intro p hp; cases hp) ?_
        refine relMove Ext.refl rfl rfl rfl rfl _ (.inl rfl) (by conv => lhs; whnf) (by simp only [List.set_cons_succ, List.set_cons_zero]; rfl) ?_
        refine relPure Ext.refl rfl rfl rfl rfl (c := .bool true) (fun w hw => by go_simp; first | done | rfl) (by simp only [List.set_cons_succ, List.set_cons_zero]; rfl) ?_
        refine relMove Ext.refl rfl rfl rfl rfl _ (.inl rfl) (by conv => lhs; whnf) (by simp only [List.set_cons_succ, List.set_cons_zero]; rfl) ?_
        refine relMove Ext.refl rfl rfl rfl rfl _ (.inl rfl) (by conv => lhs; whnf) (by simp only [List.set_cons_succ, List.set_cons_zero]; rfl) ?_
        refine relPure Ext.refl rfl rfl rfl rfl (fun w _ => by go_simp; first | done | rfl) (by simp only [List.set_cons_succ, List.set_cons_zero]; rfl) ?_
        refine relPure Ext.refl rfl rfl rfl rfl (fun w _ => by go_simp; first | done | rfl) (by simp only [List.set_cons_succ, List.set_cons_zero]; rfl) ?_
        refine relPure Ext.refl rfl rfl rfl rfl (c := .int .i64 (c : Int)) (fun w hw => by have := (a5.below hw.drew).cell 4 _ rfl; go_simp; first | done | rfl) (by simp only [List.set_cons_succ, List.set_cons_zero]; rfl) ?_
        refine relPure Ext.refl rfl rfl rfl rfl (fun w _ => by go_simp; first | done | rfl) (by simp only [List.set_cons_succ, List.set_cons_zero]; rfl) ?_
        refine relPure Ext.refl rfl rfl rfl rfl (c := .slice Af nf cf) (fun w hw => by have := (t5.below hw.drew).cell 2 _ rfl; go_simp; first | done | rfl) (by simp only [List.set_cons_succ, List.set_cons_zero]; rfl) ?_
        refine relPure Ext.refl rfl rfl rfl rfl (fun w _ => by go_simp; first | done | rfl) (by simp only [List.set_cons_succ, List.set_cons_zero]; rfl) ?_
        refine relPure Ext.refl rfl rfl rfl rfl (c := .int .i64 (8 * (nf : Int))) (fun w hw => by go_simp; first | done | rfl) (by simp only [List.set_cons_succ, List.set_cons_zero]; rfl) ?_
        refine relPure Ext.refl rfl rfl rfl rfl (c := .bool false) (fun w hw => by go_simp; first | done | rfl) (by simp only [List.set_cons_succ, List.set_cons_zero]; rfl) ?_
        refine relPick Ext.refl rfl rfl rfl rfl _ _ _ rfl rfl (c := .bool false) rfl (by simp only [List.set_cons_succ, List.set_cons_zero]; rfl) ?_
        refine relEnd fun w6 hw6 => fill_end ?_
        have e6 := hw6.drew
        have b6 := b5.trans (e6.mono b5.size)
        have a6 := a5.below e6
        have g6 := g5.below e6
        have x6 := x5.below e6
        have rl6 := rl5.below e6
        go_wp2
        refine wp_region_relG 6 [] [(5, fun w' => Av w' G 28 (x.map bv))] (RS G 28 (x.map bv)) (by kernel_rfl) (by kernel_rfl) (by kernel_rfl) (by kernel_rfl) (by kernel_rfl) (by kernel_rfl) (fun w => RS.refl w) RS.trans (by intro p hp; cases hp) (by
          intro p hp w w' hR h
          simp only [List.mem_singleton] at hp
          subst hp
          exact hR.2.1 h) ?_
        refine gel (fun w => RS.refl w) rfl (relPure (fun w => RS.refl w) rfl rfl rfl rfl (c := .agg (hcs x)) (fun w hw => exec_loadAv (hw.1.av x6.drew hHG) _ _ rfl rfl _ 32 xv.out Tryd.underlying28 rfl (by kernel_rfl)) (by simp only [List.set_cons_succ, List.set_cons_zero]; rfl) (gend ?_))
        refine gel (fun w => RS.refl w) rfl (relMove (fun w => RS.refl w) rfl rfl rfl rfl _ (.inl rfl) (by conv => lhs; whnf) (by simp only [List.set_cons_succ, List.set_cons_zero]; rfl) (gend ?_))
        refine gel (fun w => RS.refl w) rfl (relPure (fun w => RS.refl w) rfl rfl rfl rfl (fun w hw => by go_simp; first | done | rfl) (by simp only [List.set_cons_succ, List.set_cons_zero]; rfl) (gend ?_))
        refine gel (fun w => RS.refl w) rfl (relPure (fun w => RS.refl w) rfl rfl rfl rfl (fun w hw => by go_simp; first | done | rfl) (by simp only [List.set_cons_succ, List.set_cons_zero]; rfl) (gend ?_))
        refine gel (fun w => RS.refl w) rfl (relPure (fun w => RS.refl w) rfl rfl rfl rfl (c := .slice A3 l.length cA) (fun w hw => by have := (hw.1.av a6.drew (Ne.symm hGR)).cell 6 _ rfl; go_simp; first | done | rfl) (by simp only [List.set_cons_succ, List.set_cons_zero]; rfl) (gend ?_))
        refine gStore rfl rfl (fun w hw => exec_storeAv (C := x.map bv) g6.drew (by rw [xv.out]; rfl) hw _ _ _ rfl rfl rfl 32 xv.out (by kernel_rfl) xone.out 5) ?_
        refine relEndG fun w7 hw7 hg => ?_
        simp only [List.drop_succ_cons, List.drop_zero]
        have g7 := hg (5, fun w' => Av w' G 28 (x.map bv)) (List.mem_singleton.2 rfl)
        have f7 := Fr.ofDrew hw7.1
        go_wp2
        refine bodyPost_ret (v := .tuple #[.agg (hcs x), .slice A3 l.length cA, .int .i64 0]) ((results_cellAv2 (C := x.map bv) (by rfl) (by rfl) g7 _ Tryd.underlying28 rfl 32 xv.out (by kernel_rfl)).trans (by rfl)) (by rfl) ?_
        exact ⟨b6.trans (f7.below (fun j h => by rw [h]; exact hGw) b6.size), A3, cA, rfl, hcA, hAw.out, f7.rd rl6 hAG.out⟩
set_option maxRecDepth 100000 in
set_option maxHeartbeats 8000000 in
theorem ExtractR (fl : List UInt8) (hs : List (List UInt8)) (h32 : All32 hs) (tot : Nat) (Ah : Option Addr) (nh ch : Nat) (Af : Option Addr) (nf cf : Nat) (hnh : hs.length = nh) (hnf : fl.length = nf) (htb : tot < 4294967296) (hnf2 : nf ≤ 10000) (hnh2 : nh ≤ 10000)  (w : World)
    (hrh : Rd w Ah (hcl hs)) (hrf : Rd w Af (fl.map bv)) :
    Calls Tryd.prog 49 #[.agg (trc tot Ah nh ch Af nf cf).toArray] w (ExtPost w (pExt tot hs fl)) := by
  cases hm : pMay tot hs fl with
  | false =>
    rw [show pExt tot hs fl = none by rw [pExt, hm]; rfl]
    exact ER_no fl hs h32 tot Ah nh ch Af nf cf hnh hnf htb hnf2 hnh2 hm w hrh hrf
  | true =>
    cases hrd : pRd tot fl hs (pHt tot) 0 0 0 with
    | none =>
      rw [show pExt tot hs fl = none by rw [pExt, hm, hrd]; rfl]
      exact ER_bad fl hs h32 tot Ah nh ch Af nf cf hnh hnf htb hnf2 hnh2 hm hrd w hrh hrf
    | some r =>
      obtain ⟨x, l, d, k⟩ := r
      have e1 : pExt tot hs fl = if pDone hs fl d k then some ⟨x, l, d, k⟩ else none := by
        rw [pExt, hm, hrd, if_pos rfl, Option.filter_some]
      by_cases hk : k = nh
      · refine ER_good fl hs h32 tot Ah nh ch Af nf cf hnh hnf htb hnf2 hnh2 hm x l d k hrd hk _ ?_ w hrh hrf
        rw [e1, pDone, hnh, hnf]
        by_cases h1 : (d + 7) / 8 = nf
        · simp [hk, h1]
        · simp [h1]
      · rw [e1, show pDone hs fl d k = false by rw [pDone, hnh]; simp [hk], if_neg (by simp)]
        exact ER_hash fl hs h32 tot Ah nh ch Af nf cf hnh hnf htb hnf2 hnh2 hm x l d k hrd hk w hrh hrf
end Go.Proofs.YtdkknincamkhpaaDoor
