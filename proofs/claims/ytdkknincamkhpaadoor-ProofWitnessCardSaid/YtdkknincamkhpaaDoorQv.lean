/- proof.Path. -/
import Derived.Test.YtdkknincamkhpaaDoorQu
namespace Go.Proofs.YtdkknincamkhpaaDoor
open Go.RowKit
attribute [local go_sem high] slB_lh slB_l slB_h
theorem own_A {w : World} {base : Nat} {e : TypeId} {size n k c : Nat} {A : Option Addr} {xs : List Value} (h : w.ownsRow base e size (.slice A k c) n xs) : ∀ a, A = some a → base ≤ a.block := by
  intro a ha
  rcases h.2 with ⟨e, _⟩ | ⟨g, cap, cur, e, hb, _⟩
  · injection e with e1 e2 e3
    rw [e1] at ha
    cases ha
  · injection e with e1 e2 e3
    rw [e1] at ha
    injection ha with ha
    rw [← ha]
    exact hb
/-- the level with one hash of a part's tree -/
theorem PHt (n : Nat) (hn : n ≤ 4096) (w : World) : Calls Tryd.prog 24 #[.int .i64 (n : Int)] w fun e w' => e = .returned (.int .i64 ((pHt n : Nat) : Int)) ∧ w' = w := by
  obtain ⟨h12, hlo, hhi⟩ := pHt_spec n hn
  refine Height (n : Int) (pHt n) h12 (fun j hj => ?_) ?_ w
  · rw [pWd_of n j hn (by omega)]
    have := hlo j hj
    omega
  · rw [pWd_of n _ hn h12]
    omega
/-- what Path answers -/
def PathPost (w0 : World) (ans : Option (List (List UInt8))) (e : Ending) (w' : World) : Prop :=
  Below w0.heap.size w0 w' ∧ match ans with
  | none => e = .returned (.tuple #[.slice none 0 0, .bool false])
  | some l => ∃ A c, e = .returned (.tuple #[.slice A l.length c, .bool true]) ∧ l.length ≤ c ∧ (∀ a, A = some a → w0.heap.size ≤ a.block) ∧ Rd w' A (hcl l)
set_option maxRecDepth 100000 in
set_option maxHeartbeats 8000000 in
theorem PPath_none (fl : List UInt8) (hs : List (List UInt8)) (h32 : All32 hs) (tot : Nat) (Ah : Option Addr) (nh ch : Nat) (Af : Option Addr) (nf cf : Nat) (hnh : hs.length = nh) (hnf : fl.length = nf) (ht : tot < 4294967296) (hnf2 : nf ≤ 10000) (hnh2 : nh ≤ 10000) (pos : Int) (w : World)
    (hrh : Rd w Ah (hcl hs)) (hrf : Rd w Af (fl.map bv)) (hT : Tabs w) (hq : qFnd tot hs fl pos = none) :
    Calls Tryd.prog 11 #[.agg (trc tot Ah nh ch Af nf cf).toArray, .int .i64 pos] w (PathPost w none) := by
  have HF := fun w' r r2 t => PFound fl hs h32 tot Ah nh ch Af nf cf hnh hnf ht hnf2 hnh2 pos w' r r2 t
  rw [hq] at HF
  unfold FndPost at HF
  dsimp only at HF
  obtain ⟨T, hT1⟩ : ∃ T, T = w.heap.size := ⟨_, rfl⟩
  obtain ⟨W, hW⟩ : ∃ W, W = w.alloc (.cells (trc tot Ah nh ch Af nf cf).toArray 33) := ⟨_, rfl⟩
  have bW : Below w.heap.size w W := by rw [hW]; exact (Below.refl _ _).alloc (Nat.le_refl _) _
  have aT : Av W T 33 (trc tot Ah nh ch Af nf cf) := by rw [hW, hT1]; exact Av.new _ _ _
  have HF2 := HF W (hrh.below bW) (hrf.below bW) (hT.below bW)
  have hzone : (zs32.map bv).all (·.oneCell') = true := rfl
  have hz := zeros_32
  rw [show List.replicate 32 (0 : UInt8) = zs32 from rfl] at hz
  replace hW := Lib.hid hW
  replace hT1 := Lib.hid hT1
  replace hzone := Lib.hid hzone
  clear HF
  replace HF2 := Lib.hid HF2
  go_enter Tryd.func11, Tryd.ntmps11
  go_upto_region 1 with fail
  rw [← hT1.out]
  rw [← hW.out]
  go_wp2_with (first
    | ((with_reducible refine wpList_loadF 33 aT ?_ _ 3 ?_ Tryd.underlying33 ?_ ?_ ?_); rfl; rfl; rfl; kernel_rfl)
    | (go_at_call 31; refine (HF2.out).mono ?_; rintro e w1 ⟨b1, rfl⟩)
    | ((with_reducible refine wpList_storeF 28 (((Below.refl w1.heap.size w1).alloc (Nat.le_refl _) _).alloc (by simp) _) (heap_alloc2_old _ _ _) (Nat.le_refl _) (zs32.map bv) ?_ ?_ 32 rfl ?_ ?_ ?_ ?_); rfl; rfl; kernel_rfl; rfl; exact hzone.out; intro w2 a2 b2 k2 z2)
    | ((with_reducible refine wpList_storeF 28 b2 ((k2 _ (by omega)).trans (heap_alloc2_new _ _ _)) (by omega) (zs32.map bv) ?_ ?_ 32 rfl ?_ ?_ ?_ ?_); rfl; rfl; kernel_rfl; rfl; exact hzone.out; intro w3 a3 b3 k3 z3))
  go_ret2
  exact ⟨bW.trans ((b1.trans (b3.mono b1.size)).mono bW.size), rfl⟩
set_option maxRecDepth 100000 in
set_option maxHeartbeats 8000000 in
theorem PPath_some (fl : List UInt8) (hs : List (List UInt8)) (h32 : All32 hs) (tot : Nat) (Ah : Option Addr) (nh ch : Nat) (Af : Option Addr) (nf cf : Nat) (hnh : hs.length = nh) (hnf : fl.length = nf) (ht : tot < 4294967296) (hnf2 : nf ≤ 10000) (hnh2 : nh ≤ 10000) (pos : Int) (w : World)
    (hrh : Rd w Ah (hcl hs)) (hrf : Rd w Af (fl.map bv)) (hT : Tabs w) (rx ry : List UInt8) (hq : qFnd tot hs fl pos = some (rx, ry)) :
    Calls Tryd.prog 11 #[.agg (trc tot Ah nh ch Af nf cf).toArray, .int .i64 pos] w (PathPost w (some (qPath tot hs fl pos))) := by
  have HF := fun w' r r2 t => PFound fl hs h32 tot Ah nh ch Af nf cf hnh hnf ht hnf2 hnh2 pos w' r r2 t
  rw [hq] at HF
  unfold FndPost at HF
  dsimp only at HF
  obtain ⟨x32, y32⟩ := qFnd_32 h32 hq
  obtain ⟨ql, _, hp0, htot, hp1⟩ := qPath_climbs hq
  have hxr : ∃ r, pRd tot fl hs (pHt tot) 0 0 0 = some r := by
    unfold qFnd at hq
    obtain ⟨r, h1, _⟩ := Option.bind_eq_some_iff.1 hq
    exact ⟨r, (qExt_facts h1).2.2.1⟩
  obtain ⟨r, hr⟩ := hxr
  obtain ⟨P, hP⟩ : ∃ P : Nat, pos = (P : Int) := ⟨pos.toNat, by omega⟩
  subst hP
  have hP1 : P ≤ 100000 := by omega
  have hHt := pHt_spec tot htot
  have xv32 : (rx.map bv).length = 32 := by rw [List.length_map, x32]
  have yv32 : (ry.map bv).length = 32 := by rw [List.length_map, y32]
  have xone : (rx.map bv).all (·.oneCell') = true := List.all_eq_true.2 (bv_one rx)
  have yone : (ry.map bv).all (·.oneCell') = true := List.all_eq_true.2 (bv_one ry)
  have hpow : (0 + 1) * 2 ^ pHt tot ≤ 8192 := by rw [Nat.one_mul]; exact Nat.le_trans (Nat.pow_le_pow_right (by omega) hHt.1) (by decide)
  have hpow2 : ([] : List (List UInt8)).length + 2 ^ pHt tot ≤ 100000 := by rw [List.length_nil]; omega
  have HH := fun w => PHt tot htot w
  have HN := fun C w0 a b c d w' e => PNode fl hs h32 tot Ah nh ch Af nf cf P C hnh hnf hnf2 hnh2 w0 a b c d htot hP1 (pHt tot) 0 0 0 r (.slice none 0 0) [] w' (by omega) hpow hpow2 hr e
  obtain ⟨Q, hQ⟩ : ∃ Q, Q = qPath tot hs fl (P : Int) := ⟨_, rfl⟩
  have hQ2 : pPth tot fl hs P (pHt tot) 0 0 0 = Q := by rw [hQ]; unfold qPath; rfl
  rw [hQ2] at HN
  rw [← hQ]
  have hd0 : (0 : Nat) ≤ pHt tot := Nat.zero_le _
  obtain ⟨K, hK⟩ : ∃ K, K = pHt tot := ⟨_, rfl⟩
  rw [← hK] at HN HH
  obtain ⟨T, hT1⟩ : ∃ T, T = w.heap.size := ⟨_, rfl⟩
  obtain ⟨W, hW⟩ : ∃ W, W = w.alloc (.cells (trc tot Ah nh ch Af nf cf).toArray 33) := ⟨_, rfl⟩
  have bW : Below w.heap.size w W := by rw [hW]; exact (Below.refl _ _).alloc (Nat.le_refl _) _
  have aT : Av W T 33 (trc tot Ah nh ch Af nf cf) := by rw [hW, hT1]; exact Av.new _ _ _
  have HF2 := HF W (hrh.below bW) (hrf.below bW) (hT.below bW)
  have hzone : (zs32.map bv).all (·.oneCell') = true := rfl
  have hz := zeros_32
  rw [show List.replicate 32 (0 : UInt8) = zs32 from rfl] at hz
  replace hW := Lib.hid hW
  replace hT1 := Lib.hid hT1
  replace hzone := Lib.hid hzone
  clear HF
  replace HF2 := Lib.hid HF2
  replace HN := Lib.hid HN
  replace HH := Lib.hid HH
  replace hQ := Lib.hid hQ
  replace hQ2 := Lib.hid hQ2
  replace hK := Lib.hid hK
  replace hr := Lib.hid hr
  replace hq := Lib.hid hq
  replace ql := Lib.hid ql
  replace x32 := Lib.hid x32
  replace y32 := Lib.hid y32
  replace xv32 := Lib.hid xv32
  replace yv32 := Lib.hid yv32
  replace xone := Lib.hid xone
  replace yone := Lib.hid yone
  replace hpow := Lib.hid hpow
  replace hpow2 := Lib.hid hpow2
  replace hHt := Lib.hid hHt
  go_enter Tryd.func11, Tryd.ntmps11
  go_upto_region 1 with fail
  rw [← hT1.out]
  rw [← hW.out]
  go_upto_region 4 with (first
    | ((with_reducible refine wpList_loadF 33 aT ?_ _ 3 ?_ Tryd.underlying33 ?_ ?_ ?_); rfl; rfl; rfl; kernel_rfl)
    | (go_at_call 31; refine (HF2.out).mono ?_; rintro e w1 ⟨b1, rfl⟩)
    | ((with_reducible refine wpList_storeF 28 (((Below.refl w1.heap.size w1).alloc (Nat.le_refl _) _).alloc (by simp) _) (heap_alloc2_old _ _ _) (Nat.le_refl _) (rx.map bv) ?_ ?_ 32 xv32.out ?_ ?_ ?_ ?_); rfl; rfl; kernel_rfl; rfl; exact xone.out; intro w2 a2 b2 k2 z2)
    | ((with_reducible refine wpList_storeF 28 b2 ((k2 _ (by omega)).trans (heap_alloc2_new _ _ _)) (by omega) (ry.map bv) ?_ ?_ 32 yv32.out ?_ ?_ ?_ ?_); rfl; rfl; kernel_rfl; rfl; exact yone.out; intro w3 a3 b3 k3 z3))
  have bw3 := bW.trans ((b1.trans (b3.mono b1.size)).mono bW.size)
  have aT3 := (aT.below b1).below b3
  clear a2 b2 k2 z2 a3 k3 z3 b3 b1 aT HF2 bW
  go_upto_region 5 with (first
    | ((with_reducible refine wpList_loadF 33 aT3 ?_ _ 3 ?_ Tryd.underlying33 ?_ ?_ ?_); rfl; rfl; rfl; kernel_rfl)
    | ((with_reducible refine wpList_bld (.agg (clc tot Ah nh ch Af nf cf (P : Int) 0 0 (.slice none 0 0)).toArray) ?_ ?_); kernel_rfl))
  obtain ⟨W2, hW2⟩ : ∃ W2, W2 = w3.alloc (.cells (clc tot Ah nh ch Af nf cf (P : Int) 0 0 (.slice none 0 0)).toArray 71) := ⟨_, rfl⟩
  obtain ⟨C, hC⟩ : ∃ C, C = w3.heap.size := ⟨_, rfl⟩
  have aC : Av W2 C 71 (clc tot Ah nh ch Af nf cf (P : Int) 0 0 (.slice none 0 0)) := by rw [hW2, hC]; exact Av.new _ _ _
  have b2 : Below w3.heap.size w3 W2 := by rw [hW2]; exact (Below.refl _ _).alloc (Nat.le_refl _) _
  have HN2 := HN.out C w3 (by rw [hC]; exact Nat.le_refl _) (hrh.below bw3) (hrf.below bw3) (hT.below bw3) W2 ⟨b2, aC, World.ownsRow_nil _ _ _ _⟩
  have aT4 := aT3.below b2
  have c0 := aT4.cell 0 _ rfl
  have hCw : w.heap.size ≤ C + 1 := by have := bw3.size; omega
  rw [← hW2, ← hC]
  replace HN2 := Lib.hid HN2
  replace hW2 := Lib.hid hW2
  replace hC := Lib.hid hC
  clear HN aT3 aC b2
  go_upto_region 6 with (first
    | (go_at_call 24; refine (HH.out _).mono ?_; rintro e wx ⟨rfl, rfl⟩)
    | (go_at_call 32; refine (HN2.out).mono ?_; rintro e w5 ⟨rfl, v, N5, K5⟩))
  have own5 := N5.own
  rw [List.nil_append] at own5
  obtain ⟨A, c, rfl, hlc, _⟩ := own_form own5
  have c6 := N5.av.cell 6 _ rfl
  have bw5 := bw3.trans (N5.below.mono bw3.size)
  have hA := own_A own5
  have hrd := own_rd own5
  clear K5 HN2 c0
  replace own5 := Lib.hid own5
  replace hA := Lib.hid hA
  go_wp2
  go_ret2
  exact ⟨bw5, A, c, rfl, hlc, fun a e => Nat.le_trans hCw (hA.out a e), hrd⟩
theorem PPath (fl : List UInt8) (hs : List (List UInt8)) (h32 : All32 hs) (tot : Nat) (Ah : Option Addr) (nh ch : Nat) (Af : Option Addr) (nf cf : Nat) (hnh : hs.length = nh) (hnf : fl.length = nf) (ht : tot < 4294967296) (hnf2 : nf ≤ 10000) (hnh2 : nh ≤ 10000) (pos : Int) (w : World)
    (hrh : Rd w Ah (hcl hs)) (hrf : Rd w Af (fl.map bv)) (hT : Tabs w) :
    Calls Tryd.prog 11 #[.agg (trc tot Ah nh ch Af nf cf).toArray, .int .i64 pos] w (PathPost w ((qFnd tot hs fl pos).map fun _ => qPath tot hs fl pos)) := by
  cases hq : qFnd tot hs fl pos with
  | none => exact PPath_none fl hs h32 tot Ah nh ch Af nf cf hnh hnf ht hnf2 hnh2 pos w hrh hrf hT hq
  | some r => exact PPath_some fl hs h32 tot Ah nh ch Af nf cf hnh hnf ht hnf2 hnh2 pos w hrh hrf hT r.1 r.2 hq
end Go.Proofs.YtdkknincamkhpaaDoor
