/- florinref12.Path. -/
import Derived.Test.YtdkknincamkhpaaDoorPr17
import Derived.Test.YtdkknincamkhpaaDoorPr20
import Derived.Test.YtdkknincamkhpaaDoorPr13
namespace Go.Proofs.YtdkknincamkhpaaDoor
open Go.RowKit
attribute [local go_sem high] slB_lh slB_l slB_h
/-- the level with one hash of a part's tree -/
theorem PHtR (n : Nat) (hn : n ≤ 4096) (w : World) : Calls Tryd.prog 35 #[.int .i64 (n : Int)] w fun e w' => e = .returned (.int .i64 ((pHt n : Nat) : Int)) ∧ w' = w := by
  obtain ⟨h12, hlo, hhi⟩ := pHt_spec n hn
  refine HeightR (n : Int) (pHt n) h12 (fun j hj => ?_) ?_ w
  · rw [pWd_of n j hn (by omega)]
    have := hlo j hj
    omega
  · rw [pWd_of n _ hn h12]
    omega
set_option maxRecDepth 100000 in
set_option maxHeartbeats 8000000 in
theorem PathR_none (fl : List UInt8) (hs : List (List UInt8)) (h32 : All32 hs) (tot : Nat) (Ah : Option Addr) (nh ch : Nat) (Af : Option Addr) (nf cf : Nat) (hnh : hs.length = nh) (hnf : fl.length = nf) (ht : tot < 4294967296) (hnf2 : nf ≤ 10000) (hnh2 : nh ≤ 10000) (pos : Int) (w : World)
    (hrh : Rd w Ah (hcl hs)) (hrf : Rd w Af (fl.map bv)) (hq : qFnd tot hs fl pos = none) :
    Calls Tryd.prog 13 #[.agg (trc tot Ah nh ch Af nf cf).toArray, .int .i64 pos] w (PathPost w none) := by
  have HF := fun w' r r2 => FindR fl hs h32 tot Ah nh ch Af nf cf hnh hnf ht hnf2 hnh2 pos w' r r2
  have rt32 := qRt_32 (tot := tot) (fl := fl) h32
  obtain ⟨rt, hrt⟩ : ∃ rt, rt = qRt (pExt tot hs fl) := ⟨_, rfl⟩
  rw [← hrt] at HF rt32
  have rv32 : (rt.map bv).length = 32 := by rw [List.length_map, rt32]
  have rone : (rt.map bv).all (·.oneCell') = true := List.all_eq_true.2 (bv_one rt)
  replace rv32 := Lib.hid rv32
  replace rone := Lib.hid rone
  replace hrt := Lib.hid hrt
  rw [hq] at HF
  unfold FindPost at HF
  dsimp only at HF
  obtain ⟨T, hT1⟩ : ∃ T, T = w.heap.size := ⟨_, rfl⟩
  obtain ⟨W, hW⟩ : ∃ W, W = w.alloc (.cells (trc tot Ah nh ch Af nf cf).toArray 26) := ⟨_, rfl⟩
  have bW : Below w.heap.size w W := by rw [hW]; exact (Below.refl _ _).alloc (Nat.le_refl _) _
  have aT : Av W T 26 (trc tot Ah nh ch Af nf cf) := by rw [hW, hT1]; exact Av.new _ _ _
  have HF2 := HF W (hrh.below bW) (hrf.below bW)
  have hzone : (zs32.map bv).all (·.oneCell') = true := rfl
  have hz := zeros_32
  rw [show List.replicate 32 (0 : UInt8) = zs32 from rfl] at hz
  replace hW := Lib.hid hW
  replace hT1 := Lib.hid hT1
  replace hzone := Lib.hid hzone
  clear HF
  replace HF2 := Lib.hid HF2
  go_enter Tryd.func13, Tryd.ntmps13
  go_upto_region 1 with fail
  rw [← hT1.out]
  rw [← hW.out]
  go_wp2_with (first
    | ((with_reducible refine wpList_loadF 26 aT ?_ _ 3 ?_ Tryd.underlying26 ?_ ?_ ?_); rfl; rfl; rfl; kernel_rfl)
    | (go_at_call 33; refine (HF2.out).mono ?_; rintro e w1 ⟨b1, rfl⟩)
    | ((with_reducible refine wpList_storeF 28 (((Below.refl w1.heap.size w1).alloc (Nat.le_refl _) _).alloc (by simp) _) (heap_alloc2_old _ _ _) (Nat.le_refl _) (rt.map bv) ?_ ?_ 32 rv32.out ?_ ?_ ?_ ?_); rfl; rfl; kernel_rfl; rfl; exact rone.out; intro w2 a2 b2 k2 z2)
    | ((with_reducible refine wpList_storeF 28 b2 ((k2 _ (by omega)).trans (heap_alloc2_new _ _ _)) (by omega) (zs32.map bv) ?_ ?_ 32 rfl ?_ ?_ ?_ ?_); rfl; rfl; kernel_rfl; rfl; exact hzone.out; intro w3 a3 b3 k3 z3))
  go_ret2
  exact ⟨bW.trans ((b1.trans (b3.mono b1.size)).mono bW.size), rfl⟩
set_option maxRecDepth 100000 in
set_option maxHeartbeats 8000000 in
theorem PathR_some (fl : List UInt8) (hs : List (List UInt8)) (h32 : All32 hs) (tot : Nat) (Ah : Option Addr) (nh ch : Nat) (Af : Option Addr) (nf cf : Nat) (hnh : hs.length = nh) (hnf : fl.length = nf) (ht : tot < 4294967296) (hnf2 : nf ≤ 10000) (hnh2 : nh ≤ 10000) (pos : Int) (w : World)
    (hrh : Rd w Ah (hcl hs)) (hrf : Rd w Af (fl.map bv)) (rx ry : List UInt8) (hq : qFnd tot hs fl pos = some (rx, ry)) :
    Calls Tryd.prog 13 #[.agg (trc tot Ah nh ch Af nf cf).toArray, .int .i64 pos] w (PathPost w (some (qPath tot hs fl pos))) := by
  have HF := fun w' r r2 => FindR fl hs h32 tot Ah nh ch Af nf cf hnh hnf ht hnf2 hnh2 pos w' r r2
  rw [hq] at HF
  unfold FindPost at HF
  dsimp only at HF
  obtain ⟨x32, y32⟩ := qFnd_32 h32 hq
  obtain ⟨ql, _, hp0, htot, hp1⟩ := qPath_climbs hq
  have hxr : ∃ r, pRd tot fl hs (pHt tot) 0 0 0 = some r := by
    unfold qFnd at hq
    obtain ⟨r, h1, _⟩ := Option.bind_eq_some_iff.1 hq
    exact ⟨r, (qExt_facts h1).2.2.1⟩
  obtain ⟨r, hr⟩ := hxr
  obtain ⟨P, hP⟩ : ∃ P : Nat, pos = (P : Int) := ⟨pos.toNat, by omega⟩
  subst hP
  have hP1 : P ≤ 100000 := by omega
  have hHt := pHt_spec tot htot
  have xv32 : (rx.map bv).length = 32 := by rw [List.length_map, x32]
  have yv32 : (ry.map bv).length = 32 := by rw [List.length_map, y32]
  have xone : (rx.map bv).all (·.oneCell') = true := List.all_eq_true.2 (bv_one rx)
  have yone : (ry.map bv).all (·.oneCell') = true := List.all_eq_true.2 (bv_one ry)
  have hpow : (0 + 1) * 2 ^ pHt tot ≤ 8192 := by rw [Nat.one_mul]; exact Nat.le_trans (Nat.pow_le_pow_right (by omega) hHt.1) (by decide)
  have hpow2 : ([] : List (List UInt8)).length + 2 ^ pHt tot ≤ 100000 := by rw [List.length_nil]; omega
  have HH := fun w => PHtR tot htot w
  have HN := fun C w0 a b c w' e => WNode fl hs h32 tot Ah nh ch Af nf cf P C hnh hnf hnf2 hnh2 w0 a b c htot hP1 (pHt tot) 0 0 0 r (.slice none 0 0) [] w' (by omega) hpow hpow2 hr e
  obtain ⟨Q, hQ⟩ : ∃ Q, Q = qPath tot hs fl (P : Int) := ⟨_, rfl⟩
  have hQ2 : pPth tot fl hs P (pHt tot) 0 0 0 = Q := by rw [hQ]; unfold qPath; rfl
  rw [hQ2] at HN
  rw [← hQ]
  have hd0 : (0 : Nat) ≤ pHt tot := Nat.zero_le _
  obtain ⟨K, hK⟩ : ∃ K, K = pHt tot := ⟨_, rfl⟩
  rw [← hK] at HN HH
  obtain ⟨T, hT1⟩ : ∃ T, T = w.heap.size := ⟨_, rfl⟩
  obtain ⟨W, hW⟩ : ∃ W, W = w.alloc (.cells (trc tot Ah nh ch Af nf cf).toArray 26) := ⟨_, rfl⟩
  have bW : Below w.heap.size w W := by rw [hW]; exact (Below.refl _ _).alloc (Nat.le_refl _) _
  have aT : Av W T 26 (trc tot Ah nh ch Af nf cf) := by rw [hW, hT1]; exact Av.new _ _ _
  have HF2 := HF W (hrh.below bW) (hrf.below bW)
  have hzone : (zs32.map bv).all (·.oneCell') = true := rfl
  have hz := zeros_32
  rw [show List.replicate 32 (0 : UInt8) = zs32 from rfl] at hz
  replace hW := Lib.hid hW
  replace hT1 := Lib.hid hT1
  replace hzone := Lib.hid hzone
  clear HF
  replace HF2 := Lib.hid HF2
  replace HN := Lib.hid HN
  replace HH := Lib.hid HH
  replace hQ := Lib.hid hQ
  replace hQ2 := Lib.hid hQ2
  replace hK := Lib.hid hK
  replace hr := Lib.hid hr
  replace hq := Lib.hid hq
  replace ql := Lib.hid ql
  replace x32 := Lib.hid x32
  replace y32 := Lib.hid y32
  replace xv32 := Lib.hid xv32
  replace yv32 := Lib.hid yv32
  replace xone := Lib.hid xone
  replace yone := Lib.hid yone
  replace hpow := Lib.hid hpow
  replace hpow2 := Lib.hid hpow2
  replace hHt := Lib.hid hHt
  go_enter Tryd.func13, Tryd.ntmps13
  go_upto_region 1 with fail
  rw [← hT1.out]
  rw [← hW.out]
  go_upto_region 4 with (first
    | ((with_reducible refine wpList_loadF 26 aT ?_ _ 3 ?_ Tryd.underlying26 ?_ ?_ ?_); rfl; rfl; rfl; kernel_rfl)
    | (go_at_call 33; refine (HF2.out).mono ?_; rintro e w1 ⟨b1, rfl⟩)
    | ((with_reducible refine wpList_storeF 28 (((Below.refl w1.heap.size w1).alloc (Nat.le_refl _) _).alloc (by simp) _) (heap_alloc2_old _ _ _) (Nat.le_refl _) (rx.map bv) ?_ ?_ 32 xv32.out ?_ ?_ ?_ ?_); rfl; rfl; kernel_rfl; rfl; exact xone.out; intro w2 a2 b2 k2 z2)
    | ((with_reducible refine wpList_storeF 28 b2 ((k2 _ (by omega)).trans (heap_alloc2_new _ _ _)) (by omega) (ry.map bv) ?_ ?_ 32 yv32.out ?_ ?_ ?_ ?_); rfl; rfl; kernel_rfl; rfl; exact yone.out; intro w3 a3 b3 k3 z3))
  have bw3 := bW.trans ((b1.trans (b3.mono b1.size)).mono bW.size)
  have aT3 := (aT.below b1).below b3
  clear a2 b2 k2 z2 a3 k3 z3 b3 b1 aT HF2 bW
  go_upto_region 5 with (first
    | ((with_reducible refine wpList_loadF 26 aT3 ?_ _ 3 ?_ Tryd.underlying26 ?_ ?_ ?_); rfl; rfl; rfl; kernel_rfl)
    | ((with_reducible refine wpList_bld (.agg (clc tot Ah nh ch Af nf cf (P : Int) 0 0 (.slice none 0 0)).toArray) ?_ ?_); kernel_rfl))
  obtain ⟨W2, hW2⟩ : ∃ W2, W2 = w3.alloc (.cells (clc tot Ah nh ch Af nf cf (P : Int) 0 0 (.slice none 0 0)).toArray 76) := ⟨_, rfl⟩
  obtain ⟨C, hC⟩ : ∃ C, C = w3.heap.size := ⟨_, rfl⟩
  have aC : Av W2 C 76 (clc tot Ah nh ch Af nf cf (P : Int) 0 0 (.slice none 0 0)) := by rw [hW2, hC]; exact Av.new _ _ _
  have b2 : Below w3.heap.size w3 W2 := by rw [hW2]; exact (Below.refl _ _).alloc (Nat.le_refl _) _
  have HN2 := HN.out C w3 (by rw [hC]; exact Nat.le_refl _) (hrh.below bw3) (hrf.below bw3) W2 ⟨b2, aC, World.ownsRow_nil _ _ _ _⟩
  have aT4 := aT3.below b2
  have c0 := aT4.cell 0 _ rfl
  have hCw : w.heap.size ≤ C + 1 := by have := bw3.size; omega
  rw [← hW2, ← hC]
  replace HN2 := Lib.hid HN2
  replace hW2 := Lib.hid hW2
  replace hC := Lib.hid hC
  clear HN aT3 aC b2
  go_upto_region 6 with (first
    | (go_at_call 35; refine (HH.out _).mono ?_; rintro e wx ⟨rfl, rfl⟩)
    | (go_at_call 34; refine (HN2.out).mono ?_; rintro e w5 ⟨rfl, v, N5, K5⟩))
  have own5 := N5.own
  rw [List.nil_append] at own5
  obtain ⟨A, c, rfl, hlc, _⟩ := own_form own5
  have c6 := N5.av.cell 6 _ rfl
  have bw5 := bw3.trans (N5.below.mono bw3.size)
  have hA := own_A own5
  have hrd := own_rd own5
  clear K5 HN2 c0
  replace own5 := Lib.hid own5
  replace hA := Lib.hid hA
  go_wp2
  go_ret2
  exact ⟨bw5, A, c, rfl, hlc, fun a e => Nat.le_trans hCw (hA.out a e), hrd⟩
theorem PathR (fl : List UInt8) (hs : List (List UInt8)) (h32 : All32 hs) (tot : Nat) (Ah : Option Addr) (nh ch : Nat) (Af : Option Addr) (nf cf : Nat) (hnh : hs.length = nh) (hnf : fl.length = nf) (ht : tot < 4294967296) (hnf2 : nf ≤ 10000) (hnh2 : nh ≤ 10000) (pos : Int) (w : World)
    (hrh : Rd w Ah (hcl hs)) (hrf : Rd w Af (fl.map bv)) :
    Calls Tryd.prog 13 #[.agg (trc tot Ah nh ch Af nf cf).toArray, .int .i64 pos] w (PathPost w ((qFnd tot hs fl pos).map fun _ => qPath tot hs fl pos)) := by
  cases hq : qFnd tot hs fl pos with
  | none => exact PathR_none fl hs h32 tot Ah nh ch Af nf cf hnh hnf ht hnf2 hnh2 pos w hrh hrf hq
  | some r => exact PathR_some fl hs h32 tot Ah nh ch Af nf cf hnh hnf ht hnf2 hnh2 pos w hrh hrf r.1 r.2 hq
set_option maxRecDepth 100000 in
set_option maxHeartbeats 8000000 in
theorem CheckR (fl : List UInt8) (hs : List (List UInt8)) (h32 : All32 hs) (tot : Nat) (Ah : Option Addr) (nh ch : Nat) (Af : Option Addr) (nf cf : Nat) (hnh : hs.length = nh) (hnf : fl.length = nf) (ht : tot < 4294967296) (hnf2 : nf ≤ 10000) (hnh2 : nh ≤ 10000) (root y : List UInt8) (hr32 : root.length = 32) (hy32 : y.length = 32) (pos : Int) (w : World)
    (hrh : Rd w Ah (hcl hs)) (hrf : Rd w Af (fl.map bv)) :
    Calls Tryd.prog 18 #[.agg (trc tot Ah nh ch Af nf cf).toArray, .agg (hcs root), .int .i64 pos, .agg (hcs y)] w fun e w' => e = .returned (.bool (qCheck tot hs fl root pos y)) ∧ Below w.heap.size w w' := by
  have HF := fun w' r r2 => FindR fl hs h32 tot Ah nh ch Af nf cf hnh hnf ht hnf2 hnh2 pos w' r r2
  have rt32 := qRt_32 (tot := tot) (fl := fl) h32
  obtain ⟨rt, hrt⟩ : ∃ rt, rt = qRt (pExt tot hs fl) := ⟨_, rfl⟩
  rw [← hrt] at HF rt32
  have rq32 : (rt.map bv).length = 32 := by rw [List.length_map, rt32]
  have rqone : (rt.map bv).all (·.oneCell') = true := List.all_eq_true.2 (bv_one rt)
  replace rq32 := Lib.hid rq32
  replace rqone := Lib.hid rqone
  replace hrt := Lib.hid hrt
  have hf32 := fun a b h => qFnd_32 (tot := tot) (fl := fl) (pos := pos) (x := a) (y := b) h32 h
  unfold qCheck
  obtain ⟨f, hf⟩ : ∃ f, f = qFnd tot hs fl pos := ⟨_, rfl⟩
  rw [← hf] at HF hf32 ⊢
  clear hf
  unfold FindPost at HF
  obtain ⟨T, hT1⟩ : ∃ T, T = w.heap.size := ⟨_, rfl⟩
  obtain ⟨W, hW⟩ : ∃ W, W = ((w.alloc (.cells (trc tot Ah nh ch Af nf cf).toArray 26)).alloc (.cells (root.map bv).toArray 28)).alloc (.cells (y.map bv).toArray 28) := ⟨_, rfl⟩
  have bW : Below w.heap.size w W := by rw [hW]; exact (((Below.refl _ _).alloc (Nat.le_refl _) _).alloc (by simp) _).alloc (by simp; omega) _
  have aT : Av W T 26 (trc tot Ah nh ch Af nf cf) := by rw [hW, hT1]; exact (Av.newer w (trc tot Ah nh ch Af nf cf) _ _).below ((Below.refl _ _).alloc (Nat.le_refl _) _)
  have aG : Av W (T + 1) 28 (root.map bv) := by rw [hW, hT1, ← World.size_alloc w (.cells (trc tot Ah nh ch Af nf cf).toArray 26)]; exact Av.newer _ _ _ _
  have aH : Av W (T + 2) 28 (y.map bv) := by rw [hW, hT1, show w.heap.size + 2 = ((w.alloc (.cells (trc tot Ah nh ch Af nf cf).toArray 26)).alloc (.cells (root.map bv).toArray 28)).heap.size by simp]; exact Av.new _ _ _
  have HF2 := HF W (hrh.below bW) (hrf.below bW)
  have rv32 : (root.map bv).length = 32 := by rw [List.length_map, hr32]
  have yv32 : (y.map bv).length = 32 := by rw [List.length_map, hy32]
  have hzone : (zs32.map bv).all (·.oneCell') = true := rfl
  have hz := zeros_32
  rw [show List.replicate 32 (0 : UInt8) = zs32 from rfl] at hz
  replace hW := Lib.hid hW
  replace hT1 := Lib.hid hT1
  replace rv32 := Lib.hid rv32
  replace yv32 := Lib.hid yv32
  replace hzone := Lib.hid hzone
  clear HF
  cases f with
  | none =>
    dsimp only at HF2 ⊢
    replace HF2 := Lib.hid HF2
    go_enter Tryd.func18, Tryd.ntmps18
    go_upto_region 1 with fail
    rw [← hT1.out]
    rw [← hW.out]
    go_wp2_with (first
      | ((with_reducible refine wpList_loadF 26 aT ?_ _ 3 ?_ Tryd.underlying26 ?_ ?_ ?_); rfl; rfl; rfl; kernel_rfl)
      | (go_at_call 33; refine (HF2.out).mono ?_; rintro e w1 ⟨b1, rfl⟩)
      | ((with_reducible refine wpList_storeF 28 (((Below.refl w1.heap.size w1).alloc (Nat.le_refl _) _).alloc (by simp) _) (heap_alloc2_old _ _ _) (Nat.le_refl _) (rt.map bv) ?_ ?_ 32 rq32.out ?_ ?_ ?_ ?_); rfl; rfl; kernel_rfl; rfl; exact rqone.out; intro w2 a2 b2 k2 z2)
      | ((with_reducible refine wpList_storeF 28 b2 ((k2 _ (by omega)).trans (heap_alloc2_new _ _ _)) (by omega) (zs32.map bv) ?_ ?_ 32 rfl ?_ ?_ ?_ ?_); rfl; rfl; kernel_rfl; rfl; exact hzone.out; intro w3 a3 b3 k3 z3))
    go_ret
    exact ⟨rfl, bW.trans ((b1.trans (b3.mono b1.size)).mono bW.size)⟩
  | some r =>
    obtain ⟨rx, ry⟩ := r
    obtain ⟨x32, z32⟩ := hf32 rx ry rfl
    dsimp only at HF2 ⊢
    have xv32 : (rx.map bv).length = 32 := by rw [List.length_map, x32]
    have zv32 : (ry.map bv).length = 32 := by rw [List.length_map, z32]
    have xone : (rx.map bv).all (·.oneCell') = true := List.all_eq_true.2 (bv_one rx)
    have zone : (ry.map bv).all (·.oneCell') = true := List.all_eq_true.2 (bv_one ry)
    have E1 := Lib.hid (fun p q w => eqlHw rx root x32 hr32 p q w)
    have E2 := Lib.hid (fun p q w => eqlHw ry y z32 hy32 p q w)
    generalize (rx == root) = c1 at E1 ⊢
    generalize (ry == y) = c2 at E2 ⊢
    replace HF2 := Lib.hid HF2
    replace xv32 := Lib.hid xv32
    replace zv32 := Lib.hid zv32
    replace xone := Lib.hid xone
    replace zone := Lib.hid zone
    clear hf32
    go_enter Tryd.func18, Tryd.ntmps18
    go_upto_region 1 with fail
    rw [← hT1.out]
    rw [← hW.out]
    go_upto_region 2 with (first
      | ((with_reducible refine wpList_loadF 26 aT ?_ _ 3 ?_ Tryd.underlying26 ?_ ?_ ?_); rfl; rfl; rfl; kernel_rfl)
      | (go_at_call 33; refine (HF2.out).mono ?_; rintro e w1 ⟨b1, rfl⟩)
      | ((with_reducible refine wpList_storeF 28 (((Below.refl w1.heap.size w1).alloc (Nat.le_refl _) _).alloc (by simp) _) (heap_alloc2_old _ _ _) (Nat.le_refl _) (rx.map bv) ?_ ?_ 32 xv32.out ?_ ?_ ?_ ?_); rfl; rfl; kernel_rfl; rfl; exact xone.out; intro w2 a2 b2 k2 z2)
      | ((with_reducible refine wpList_storeF 28 b2 ((k2 _ (by omega)).trans (heap_alloc2_new _ _ _)) (by omega) (ry.map bv) ?_ ?_ 32 zv32.out ?_ ?_ ?_ ?_); rfl; rfl; kernel_rfl; rfl; exact zone.out; intro w3 a3 b3 k3 z3))
    have a23 := a2.same (k3 _ (by omega))
    have aG3 := (aG.below b1).below b3
    have aH3 := (aH.below b1).below b3
    have bw3 := bW.trans ((b1.trans (b3.mono b1.size)).mono bW.size)
    clear k2 k3 z2 z3 b2 b3
    cases c1 <;> cases c2 <;>
    · go_wp2_with (first
        | ((with_reducible refine wpList_loadG 28 a23 ?_ ?_ _ 32 xv32.out Tryd.underlying28 ?_ ?_ ?_); rfl; rfl; rfl; kernel_rfl)
        | ((with_reducible refine wpList_loadG 28 a3 ?_ ?_ _ 32 zv32.out Tryd.underlying28 ?_ ?_ ?_); rfl; rfl; rfl; kernel_rfl)
        | ((with_reducible refine wpList_loadG 28 aG3 ?_ ?_ _ 32 rv32.out Tryd.underlying28 ?_ ?_ ?_); rfl; rfl; rfl; kernel_rfl)
        | ((with_reducible refine wpList_loadG 28 aH3 ?_ ?_ _ 32 yv32.out Tryd.underlying28 ?_ ?_ ?_); rfl; rfl; rfl; kernel_rfl)
        | ((with_reducible refine wpList_binG (op := .eql) (ty := 28) ?_ ?_ ?_ (E1.out _ _ w3) ?_); rfl; rfl; rfl)
        | ((with_reducible refine wpList_binG (op := .eql) (ty := 28) ?_ ?_ ?_ (E2.out _ _ w3) ?_); rfl; rfl; rfl))
      go_ret
      exact ⟨rfl, bw3⟩
end Go.Proofs.YtdkknincamkhpaaDoor
