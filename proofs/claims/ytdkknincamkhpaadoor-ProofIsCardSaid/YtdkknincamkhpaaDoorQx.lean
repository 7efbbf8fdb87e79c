/- proof.Clash. -/
import Derived.Test.YtdkknincamkhpaaDoorQw
import Derived.OwnWalk
namespace Go.Proofs.YtdkknincamkhpaaDoor
open Go.RowKit
attribute [local go_sem high] slB_lh slB_l slB_h
theorem wpOp_callD {P : Program} {ops : Array Oper} {Q : Exit → Act → World → Prop} {i : Nat} {K : Act → World → Prop} {a : Act} {w : World} {o : Oper} (ho : ops[i]? = some o) (hg : o.guard = none) (D : Option Tmp) (hD : o.dst = D) (f : FuncId) (args : Array Value) (he : (execOp a.eval o).run P w = .ok (.enter f args) w)
    (h : Calls P f args w fun e w' => ∃ v, e = .returned v ∧ K (a.put D v) w') : wpOp P ops Q i K a w := by
  refine wpOp_wp ho hg ?_
  unfold Oper.wp
  rw [he]
  subst hD
  refine Calls.mono h ?_
  rintro e w'' ⟨v, rfl, h1⟩
  exact h1
/-- what found answers, both ways -/
def fndH : Option (List UInt8 × List UInt8) → List UInt8 × List UInt8 × Bool
  | none => (zs32, zs32, false)
  | some r => (r.1, r.2, true)
theorem PFoundH (fl : List UInt8) (hs : List (List UInt8)) (h32 : All32 hs) (tot : Nat) (Ah : Option Addr) (nh ch : Nat) (Af : Option Addr) (nf cf : Nat) (hnh : hs.length = nh) (hnf : fl.length = nf) (ht : tot < 4294967296) (hnf2 : nf ≤ 10000) (hnh2 : nh ≤ 10000) (pos : Int) (w : World)
    (hrh : Rd w Ah (hcl hs)) (hrf : Rd w Af (fl.map bv)) (hT : Tabs w) (f : List UInt8 × List UInt8 × Bool) (hf : f = fndH (qFnd tot hs fl pos)) :
    (Calls Tryd.prog 31 #[.agg (trc tot Ah nh ch Af nf cf).toArray, .int .i64 pos] w fun e w' => Below w.heap.size w w' ∧ e = .returned (.tuple #[.agg (hcs f.1), .agg (hcs f.2.1), .bool f.2.2])) := by
  refine (PFound fl hs h32 tot Ah nh ch Af nf cf hnh hnf ht hnf2 hnh2 pos w hrh hrf hT).mono ?_
  intro e w' h
  rw [hf]
  unfold FndPost at h
  cases hq : qFnd tot hs fl pos with
  | none => rw [hq] at h; exact h
  | some r => rw [hq] at h; exact h
theorem fndH_32 {tot : Nat} {hs : List (List UInt8)} {fl : List UInt8} {pos : Int} (h32 : All32 hs) : (fndH (qFnd tot hs fl pos)).1.length = 32 ∧ (fndH (qFnd tot hs fl pos)).2.1.length = 32 := by
  cases hq : qFnd tot hs fl pos with
  | none => exact ⟨rfl, rfl⟩
  | some r => exact qFnd_32 (x := r.1) (y := r.2) h32 hq
/-- what Clash answers -/
def ClashPost (w0 : World) (ans : Option (List UInt8 × List UInt8)) (e : Ending) (w' : World) : Prop :=
  Below w0.heap.size w0 w' ∧ match ans with
  | none => e = .returned (.tuple #[.slice none 0 0, .slice none 0 0, .bool false])
  | some s => ∃ A m c B n d, e = .returned (.tuple #[.slice A m c, .slice B n d, .bool true]) ∧ s.1.length = m ∧ m ≤ c ∧ s.2.length = n ∧ n ≤ d ∧ m ≤ 100 ∧ n ≤ 100 ∧ Rd w' A (s.1.map bv) ∧ Rd w' B (s.2.map bv)
/-- a slice of texts -/
def StW (N : Nat) (ts : List (List UInt8)) : VP := fun v w => ∃ A c gs, v = .slice A N c ∧ Rd w A (slc gs) ∧ StAt w gs ts
theorem StW.mono {N : Nat} {ts : List (List UInt8)} {v : Value} {w w' : World} (h : Ext w w') : StW N ts v w → StW N ts v w' := by
  rintro ⟨A, c, gs, rfl, h1, h2⟩
  exact ⟨A, c, gs, rfl, h1.below h, h2.below h⟩
set_option maxRecDepth 100000 in
set_option maxHeartbeats 8000000 in
theorem PClash_no (fl1 : List UInt8) (hs1 : List (List UInt8)) (_ : All32 hs1) (tot1 : Nat) (Ah1 : Option Addr) (nh1 ch1 : Nat) (Af1 : Option Addr) (nf1 cf1 : Nat) (hnh1 : hs1.length = nh1) (hnf1 : fl1.length = nf1) (_ : tot1 < 4294967296) (_ : nf1 ≤ 10000) (_ : nh1 ≤ 10000)
    (fl2 : List UInt8) (hs2 : List (List UInt8)) (_ : All32 hs2) (tot2 : Nat) (Ah2 : Option Addr) (nh2 ch2 : Nat) (Af2 : Option Addr) (nf2 cf2 : Nat) (hnh2 : hs2.length = nh2) (hnf2 : fl2.length = nf2) (_ : tot2 < 4294967296) (_ : nf2 ≤ 10000) (_ : nh2 ≤ 10000)
    (pos : Int) (w : World) (r1 x1 r2 x2 : List UInt8) (f1 f2 : Bool) (r132 : r1.length = 32) (x132 : x1.length = 32) (r232 : r2.length = 32) (x232 : x2.length = 32)
    (HF1 : ∀ w', Below w.heap.size w w' → Calls Tryd.prog 31 #[.agg (trc tot1 Ah1 nh1 ch1 Af1 nf1 cf1).toArray, .int .i64 pos] w' fun e w'' => Below w'.heap.size w' w'' ∧ e = .returned (.tuple #[.agg (hcs r1), .agg (hcs x1), .bool f1]))
    (HFb : ∀ w', Below w.heap.size w w' → Calls Tryd.prog 31 #[.agg (trc tot2 Ah2 nh2 ch2 Af2 nf2 cf2).toArray, .int .i64 pos] w' fun e w'' => Below w'.heap.size w' w'' ∧ e = .returned (.tuple #[.agg (hcs r2), .agg (hcs x2), .bool f2]))
    (hway : f1 = false ∨ (f1 = true ∧ f2 = false) ∨ (f1 = true ∧ f2 = true ∧ (r1 == r2) = false) ∨ (f1 = true ∧ f2 = true ∧ (r1 == r2) = true ∧ tot1 ≠ tot2) ∨ (f1 = true ∧ f2 = true ∧ (r1 == r2) = true ∧ tot1 = tot2 ∧ (x1 == x2) = true)) :
    Calls Tryd.prog 14 #[.agg (trc tot1 Ah1 nh1 ch1 Af1 nf1 cf1).toArray, .agg (trc tot2 Ah2 nh2 ch2 Af2 nf2 cf2).toArray, .int .i64 pos] w (ClashPost w none) := by
  replace hway := Lib.hid hway
  have rv1 : (r1.map bv).length = 32 := by rw [List.length_map, r132]
  have xv1 : (x1.map bv).length = 32 := by rw [List.length_map, x132]
  have rv2 : (r2.map bv).length = 32 := by rw [List.length_map, r232]
  have xv2 : (x2.map bv).length = 32 := by rw [List.length_map, x232]
  have rone1 : (r1.map bv).all (·.oneCell') = true := List.all_eq_true.2 (bv_one r1)
  have xone1 : (x1.map bv).all (·.oneCell') = true := List.all_eq_true.2 (bv_one x1)
  have rone2 : (r2.map bv).all (·.oneCell') = true := List.all_eq_true.2 (bv_one r2)
  have xone2 : (x2.map bv).all (·.oneCell') = true := List.all_eq_true.2 (bv_one x2)
  have hz := zeros_32
  rw [show List.replicate 32 (0 : UInt8) = zs32 from rfl] at hz
  obtain ⟨T, hT1⟩ : ∃ T, T = w.heap.size := ⟨_, rfl⟩
  obtain ⟨W, hW⟩ : ∃ W, W = (w.alloc (.cells (trc tot1 Ah1 nh1 ch1 Af1 nf1 cf1).toArray 33)).alloc (.cells (trc tot2 Ah2 nh2 ch2 Af2 nf2 cf2).toArray 33) := ⟨_, rfl⟩
  have bW : Below w.heap.size w W := by rw [hW]; exact ((Below.refl _ _).alloc (Nat.le_refl _) _).alloc (by simp) _
  have aT1 : Av W T 33 (trc tot1 Ah1 nh1 ch1 Af1 nf1 cf1) := by rw [hW, hT1]; exact Av.newer w (trc tot1 Ah1 nh1 ch1 Af1 nf1 cf1) _ _
  have aT2 : Av W (T + 1) 33 (trc tot2 Ah2 nh2 ch2 Af2 nf2 cf2) := by rw [hW, hT1, ← World.size_alloc w (.cells (trc tot1 Ah1 nh1 ch1 Af1 nf1 cf1).toArray 33)]; exact Av.new _ _ _
  have E1 := fun p q w => neqHw r1 r2 r132 r232 p q w
  have E3 := fun p q w => eqlHw x1 x2 x132 x232 p q w
  have HF2 := HF1 W bW
  replace HF2 := Lib.hid HF2
  replace HFb := Lib.hid HFb
  replace E1 := Lib.hid E1
  replace E3 := Lib.hid E3
  replace hW := Lib.hid hW
  replace hT1 := Lib.hid hT1
  replace rv1 := Lib.hid rv1
  replace xv1 := Lib.hid xv1
  replace rv2 := Lib.hid rv2
  replace xv2 := Lib.hid xv2
  replace rone1 := Lib.hid rone1
  replace xone1 := Lib.hid xone1
  replace rone2 := Lib.hid rone2
  replace xone2 := Lib.hid xone2
  replace r132 := Lib.hid r132
  replace x132 := Lib.hid x132
  replace r232 := Lib.hid r232
  replace x232 := Lib.hid x232
  replace hnh1 := Lib.hid hnh1
  replace hnf1 := Lib.hid hnf1
  replace hnh2 := Lib.hid hnh2
  replace hnf2 := Lib.hid hnf2
  clear HF1
  go_enter Tryd.func14, Tryd.ntmps14
  go_upto_region 1 with fail
  rw [← hT1.out]
  rw [← hW.out]
  go_upto_region 2 with (first
    | ((with_reducible refine wpList_loadF 33 aT1 ?_ _ 3 ?_ Tryd.underlying33 ?_ ?_ ?_); rfl; rfl; rfl; kernel_rfl)
    | (go_at_call 31; refine (HF2.out).mono ?_; rintro e w1 ⟨b1, rfl⟩)
    | ((with_reducible refine wpList_storeF 28 (((Below.refl w1.heap.size w1).alloc (Nat.le_refl _) _).alloc (by simp) _) (heap_alloc2_old _ _ _) (Nat.le_refl _) (r1.map bv) ?_ ?_ 32 rv1.out ?_ ?_ ?_ ?_); rfl; rfl; kernel_rfl; rfl; exact rone1.out; intro w2 a2 b2 k2 z2)
    | ((with_reducible refine wpList_storeF 28 b2 ((k2 _ (by omega)).trans (heap_alloc2_new _ _ _)) (by omega) (x1.map bv) ?_ ?_ 32 xv1.out ?_ ?_ ?_ ?_); rfl; rfl; kernel_rfl; rfl; exact xone1.out; intro w3 a3 b3 k3 z3))
  have a9 := a2.same (k3 _ (by omega))
  have bW3 := bW.trans ((b1.trans (b3.mono b1.size)).mono bW.size)
  have aT13 := (aT1.below b1).below b3
  have aT23 := (aT2.below b1).below b3
  obtain ⟨g9, hg9⟩ : ∃ g9, g9 = w1.heap.size := ⟨_, rfl⟩
  rw [← hg9] at a9 a3 ⊢
  have s3 : g9 + 1 < w3.heap.size := a3.lt
  have a10 := a3
  clear a2 b2 k2 z2 k3 z3 b3 b1 aT1 aT2 HF2 bW
  replace hg9 := Lib.hid hg9
  have HFb2 := HFb.out w3 bW3
  replace HFb2 := Lib.hid HFb2
  go_upto_region 3 with (first
    | ((with_reducible refine wpList_loadF 33 aT23 ?_ _ 3 ?_ Tryd.underlying33 ?_ ?_ ?_); rfl; rfl; rfl; kernel_rfl)
    | (go_at_call 31; refine (HFb2.out).mono ?_; rintro e w4 ⟨b4, rfl⟩)
    | ((with_reducible refine wpList_storeF 28 (((Below.refl w4.heap.size w4).alloc (Nat.le_refl _) _).alloc (by simp) _) (heap_alloc2_old _ _ _) (Nat.le_refl _) (r2.map bv) ?_ ?_ 32 rv2.out ?_ ?_ ?_ ?_); rfl; rfl; kernel_rfl; rfl; exact rone2.out; intro w5 a5 b5 k5 z5)
    | ((with_reducible refine wpList_storeF 28 b5 ((k5 _ (by omega)).trans (heap_alloc2_new _ _ _)) (by omega) (x2.map bv) ?_ ?_ 32 xv2.out ?_ ?_ ?_ ?_); rfl; rfl; kernel_rfl; rfl; exact xone2.out; intro w6 a6 b6 k6 z6))
  have a12 := a5.same (k6 _ (by omega))
  have bw6 := bW3.trans ((b4.trans (b6.mono b4.size)).mono bW3.size)
  have aT16 := (aT13.below b4).below b6
  have aT26 := (aT23.below b4).below b6
  have a96 := (a9.below b4).below b6
  have a106 := (a10.below b4).below b6
  obtain ⟨g12, hg12⟩ : ∃ g12, g12 = w4.heap.size := ⟨_, rfl⟩
  rw [← hg12] at a12 a6 ⊢
  have a13 := a6
  have cT1 := aT16.cell 0 _ rfl
  have cT2 := aT26.cell 0 _ rfl
  clear a5 b5 k5 z5 k6 z6 b6 b4 aT13 aT23 HFb HFb2 a9 a10 a3 a6 bW3
  replace hg12 := Lib.hid hg12
  replace E1 := E1.out
  replace E3 := E3.out
  rcases hway.out with hw1 | hw1 | hw1 | hw1 | hw1
  · obtain rfl := hw1
    clear hway
    replace E1 := Lib.hid E1
    replace E3 := Lib.hid E3
    go_wp2_with (first
        | ((with_reducible refine wpList_loadG 28 a96 ?_ ?_ _ 32 rv1.out Tryd.underlying28 ?_ ?_ ?_); rfl; rfl; rfl; kernel_rfl)
        | ((with_reducible refine wpList_loadG 28 a12 ?_ ?_ _ 32 rv2.out Tryd.underlying28 ?_ ?_ ?_); rfl; rfl; rfl; kernel_rfl)
        | ((with_reducible refine wpList_loadG 28 a106 ?_ ?_ _ 32 xv1.out Tryd.underlying28 ?_ ?_ ?_); rfl; rfl; rfl; kernel_rfl)
        | ((with_reducible refine wpList_loadG 28 a13 ?_ ?_ _ 32 xv2.out Tryd.underlying28 ?_ ?_ ?_); rfl; rfl; rfl; kernel_rfl)
        | ((with_reducible refine wpList_binG (op := .neq) (ty := 28) ?_ ?_ ?_ (E1.out _ _ w6) ?_); rfl; rfl; rfl)
        | ((with_reducible refine wpList_binG (op := .eql) (ty := 28) ?_ ?_ ?_ (E3.out _ _ w6) ?_); rfl; rfl; rfl))
    go_ret3
    exact ⟨bw6, rfl⟩
  · obtain ⟨rfl, rfl⟩ := hw1
    clear hway
    replace E1 := Lib.hid E1
    replace E3 := Lib.hid E3
    go_wp2_with (first
        | ((with_reducible refine wpList_loadG 28 a96 ?_ ?_ _ 32 rv1.out Tryd.underlying28 ?_ ?_ ?_); rfl; rfl; rfl; kernel_rfl)
        | ((with_reducible refine wpList_loadG 28 a12 ?_ ?_ _ 32 rv2.out Tryd.underlying28 ?_ ?_ ?_); rfl; rfl; rfl; kernel_rfl)
        | ((with_reducible refine wpList_loadG 28 a106 ?_ ?_ _ 32 xv1.out Tryd.underlying28 ?_ ?_ ?_); rfl; rfl; rfl; kernel_rfl)
        | ((with_reducible refine wpList_loadG 28 a13 ?_ ?_ _ 32 xv2.out Tryd.underlying28 ?_ ?_ ?_); rfl; rfl; rfl; kernel_rfl)
        | ((with_reducible refine wpList_binG (op := .neq) (ty := 28) ?_ ?_ ?_ (E1.out _ _ w6) ?_); rfl; rfl; rfl)
        | ((with_reducible refine wpList_binG (op := .eql) (ty := 28) ?_ ?_ ?_ (E3.out _ _ w6) ?_); rfl; rfl; rfl))
    go_ret3
    exact ⟨bw6, rfl⟩
  · obtain ⟨rfl, rfl, hw1⟩ := hw1
    rw [hw1] at E1
    clear hw1
    clear hway
    replace E1 := Lib.hid E1
    replace E3 := Lib.hid E3
    go_wp2_with (first
        | ((with_reducible refine wpList_loadG 28 a96 ?_ ?_ _ 32 rv1.out Tryd.underlying28 ?_ ?_ ?_); rfl; rfl; rfl; kernel_rfl)
        | ((with_reducible refine wpList_loadG 28 a12 ?_ ?_ _ 32 rv2.out Tryd.underlying28 ?_ ?_ ?_); rfl; rfl; rfl; kernel_rfl)
        | ((with_reducible refine wpList_loadG 28 a106 ?_ ?_ _ 32 xv1.out Tryd.underlying28 ?_ ?_ ?_); rfl; rfl; rfl; kernel_rfl)
        | ((with_reducible refine wpList_loadG 28 a13 ?_ ?_ _ 32 xv2.out Tryd.underlying28 ?_ ?_ ?_); rfl; rfl; rfl; kernel_rfl)
        | ((with_reducible refine wpList_binG (op := .neq) (ty := 28) ?_ ?_ ?_ (E1.out _ _ w6) ?_); rfl; rfl; rfl)
        | ((with_reducible refine wpList_binG (op := .eql) (ty := 28) ?_ ?_ ?_ (E3.out _ _ w6) ?_); rfl; rfl; rfl))
    go_ret3
    exact ⟨bw6, rfl⟩
  · obtain ⟨rfl, rfl, hw1, hw2⟩ := hw1
    rw [hw1] at E1
    have t1 : ((tot1 : Int) != (tot2 : Int)) = true := by simp; omega
    clear hw1 hw2
    clear hway
    replace E1 := Lib.hid E1
    replace E3 := Lib.hid E3
    go_wp2_with (first
        | ((with_reducible refine wpList_loadG 28 a96 ?_ ?_ _ 32 rv1.out Tryd.underlying28 ?_ ?_ ?_); rfl; rfl; rfl; kernel_rfl)
        | ((with_reducible refine wpList_loadG 28 a12 ?_ ?_ _ 32 rv2.out Tryd.underlying28 ?_ ?_ ?_); rfl; rfl; rfl; kernel_rfl)
        | ((with_reducible refine wpList_loadG 28 a106 ?_ ?_ _ 32 xv1.out Tryd.underlying28 ?_ ?_ ?_); rfl; rfl; rfl; kernel_rfl)
        | ((with_reducible refine wpList_loadG 28 a13 ?_ ?_ _ 32 xv2.out Tryd.underlying28 ?_ ?_ ?_); rfl; rfl; rfl; kernel_rfl)
        | ((with_reducible refine wpList_binG (op := .neq) (ty := 28) ?_ ?_ ?_ (E1.out _ _ w6) ?_); rfl; rfl; rfl)
        | ((with_reducible refine wpList_binG (op := .eql) (ty := 28) ?_ ?_ ?_ (E3.out _ _ w6) ?_); rfl; rfl; rfl))
    go_ret3
    exact ⟨bw6, rfl⟩
  · obtain ⟨rfl, rfl, hw1, hw2, hw3⟩ := hw1
    rw [hw1] at E1
    rw [hw3] at E3
    have t1 : ((tot1 : Int) != (tot2 : Int)) = false := by simp; omega
    clear hw1 hw2 hw3
    clear hway
    replace E1 := Lib.hid E1
    replace E3 := Lib.hid E3
    go_wp2_with (first
        | ((with_reducible refine wpList_loadG 28 a96 ?_ ?_ _ 32 rv1.out Tryd.underlying28 ?_ ?_ ?_); rfl; rfl; rfl; kernel_rfl)
        | ((with_reducible refine wpList_loadG 28 a12 ?_ ?_ _ 32 rv2.out Tryd.underlying28 ?_ ?_ ?_); rfl; rfl; rfl; kernel_rfl)
        | ((with_reducible refine wpList_loadG 28 a106 ?_ ?_ _ 32 xv1.out Tryd.underlying28 ?_ ?_ ?_); rfl; rfl; rfl; kernel_rfl)
        | ((with_reducible refine wpList_loadG 28 a13 ?_ ?_ _ 32 xv2.out Tryd.underlying28 ?_ ?_ ?_); rfl; rfl; rfl; kernel_rfl)
        | ((with_reducible refine wpList_binG (op := .neq) (ty := 28) ?_ ?_ ?_ (E1.out _ _ w6) ?_); rfl; rfl; rfl)
        | ((with_reducible refine wpList_binG (op := .eql) (ty := 28) ?_ ?_ ?_ (E3.out _ _ w6) ?_); rfl; rfl; rfl))
    go_ret3
    exact ⟨bw6, rfl⟩
set_option maxRecDepth 100000 in
set_option maxHeartbeats 16000000 in
theorem PClash_go (fl1 : List UInt8) (hs1 : List (List UInt8)) (g32 : All32 hs1) (tot1 : Nat) (Ah1 : Option Addr) (nh1 ch1 : Nat) (Af1 : Option Addr) (nf1 cf1 : Nat) (hnh1 : hs1.length = nh1) (hnf1 : fl1.length = nf1) (ht1 : tot1 < 4294967296) (hnf12 : nf1 ≤ 10000) (hnh12 : nh1 ≤ 10000)
    (fl2 : List UInt8) (hs2 : List (List UInt8)) (k32 : All32 hs2) (tot2 : Nat) (Ah2 : Option Addr) (nh2 ch2 : Nat) (Af2 : Option Addr) (nf2 cf2 : Nat) (hnh2 : hs2.length = nh2) (hnf2 : fl2.length = nf2) (ht2 : tot2 < 4294967296) (hnf22 : nf2 ≤ 10000) (hnh22 : nh2 ≤ 10000)
    (hts : tot1 = tot2) (pos : Int) (w : World) (hrh1 : Rd w Ah1 (hcl hs1)) (hrf1 : Rd w Af1 (fl1.map bv)) (hrh2 : Rd w Ah2 (hcl hs2)) (hrf2 : Rd w Af2 (fl2.map bv)) (hT : Tabs w) (r1 x1 r2 x2 : List UInt8) (hq1 : qFnd tot1 hs1 fl1 pos = some (r1, x1)) (hq2 : qFnd tot2 hs2 fl2 pos = some (r2, x2)) (hrr : (r1 == r2) = true) (hxx : (x1 == x2) = false) :
    Calls Tryd.prog 14 #[.agg (trc tot1 Ah1 nh1 ch1 Af1 nf1 cf1).toArray, .agg (trc tot2 Ah2 nh2 ch2 Af2 nf2 cf2).toArray, .int .i64 pos] w (ClashPost w ((qFst (qSt x1 (qPath tot1 hs1 fl1 pos) pos.toNat) (qSt x2 (qPath tot2 hs2 fl2 pos) pos.toNat)).map qWit)) := by
  obtain ⟨r132, x132⟩ := qFnd_32 g32 hq1
  obtain ⟨r232, x232⟩ := qFnd_32 k32 hq2
  have HF1 : ∀ w', Below w.heap.size w w' → Calls Tryd.prog 31 #[.agg (trc tot1 Ah1 nh1 ch1 Af1 nf1 cf1).toArray, .int .i64 pos] w' fun e w'' => Below w'.heap.size w' w'' ∧ e = .returned (.tuple #[.agg (hcs r1), .agg (hcs x1), .bool true]) := fun w' b => PFoundH fl1 hs1 g32 tot1 Ah1 nh1 ch1 Af1 nf1 cf1 hnh1 hnf1 ht1 hnf12 hnh12 pos w' (hrh1.below b) (hrf1.below b) (hT.below b) (r1, x1, true) (by rw [hq1]; rfl)
  have HFb : ∀ w', Below w.heap.size w w' → Calls Tryd.prog 31 #[.agg (trc tot2 Ah2 nh2 ch2 Af2 nf2 cf2).toArray, .int .i64 pos] w' fun e w'' => Below w'.heap.size w' w'' ∧ e = .returned (.tuple #[.agg (hcs r2), .agg (hcs x2), .bool true]) := fun w' b => PFoundH fl2 hs2 k32 tot2 Ah2 nh2 ch2 Af2 nf2 cf2 hnh2 hnf2 ht2 hnf22 hnh22 pos w' (hrh2.below b) (hrf2.below b) (hT.below b) (r2, x2, true) (by rw [hq2]; rfl)
  have HP1 := fun w' b => PPath fl1 hs1 g32 tot1 Ah1 nh1 ch1 Af1 nf1 cf1 hnh1 hnf1 ht1 hnf12 hnh12 pos w' (Rd.below hrh1 b) (Rd.below hrf1 b) (Tabs.below hT b)
  have HP2 := fun w' b => PPath fl2 hs2 k32 tot2 Ah2 nh2 ch2 Af2 nf2 cf2 hnh2 hnf2 ht2 hnf22 hnh22 pos w' (Rd.below hrh2 b) (Rd.below hrf2 b) (Tabs.below hT b)
  rw [hq1] at HP1
  rw [hq2] at HP2
  obtain ⟨ql1, -, hp0, htot1, hp1⟩ := qPath_climbs hq1
  obtain ⟨ql2, -, -, -, -⟩ := qPath_climbs hq2
  have p32 := qPath_32 tot1 hs1 fl1 pos g32
  have q32 := qPath_32 tot2 hs2 fl2 pos k32
  replace ql2 := ql2.trans (congrArg pHt hts.symm)
  obtain ⟨N, hN⟩ : ∃ N, N = pHt tot1 := ⟨_, rfl⟩
  have hN12 : N ≤ 12 := by rw [hN]; exact (pHt_spec tot1 htot1).1
  rw [← hN] at ql1 ql2
  obtain ⟨P1, hP1⟩ : ∃ P1, P1 = qPath tot1 hs1 fl1 pos := ⟨_, rfl⟩
  obtain ⟨P2, hP2⟩ : ∃ P2, P2 = qPath tot2 hs2 fl2 pos := ⟨_, rfl⟩
  rw [← hP1] at HP1 ql1 p32 ⊢
  rw [← hP2] at HP2 ql2 q32 ⊢
  have m1 : max pos 0 = (pos.toNat : Int) := by omega
  have m2 : pos.toNat < 9223372036854775808 := by omega
  have HS1 := fun A c w' r t => PSteps x1 x132 P1 p32 pos pos.toNat m1 m2 A N c ql1 (by omega) w' r t
  have HS2 := fun A c w' r t => PSteps x2 x232 P2 q32 pos pos.toNat m1 m2 A N c ql2 (by omega) w' r t
  have K64 := qSt_64 x1 P1 pos.toNat x132 p32
  have L64 := qSt_64 x2 P2 pos.toNat x232 q32
  have Kl : (qSt x1 P1 pos.toNat).length = N := by rw [qSt_length, ql1]
  have Ll : (qSt x2 P2 pos.toNat).length = N := by rw [qSt_length, ql2]
  obtain ⟨K, hK⟩ : ∃ K, K = qSt x1 P1 pos.toNat := ⟨_, rfl⟩
  obtain ⟨L, hL⟩ : ∃ L, L = qSt x2 P2 pos.toNat := ⟨_, rfl⟩
  rw [← hK] at HS1 K64 Kl ⊢
  rw [← hL] at HS2 L64 Ll ⊢
  unfold StepsPost at HS1 HS2
  unfold PathPost at HP1 HP2
  simp only [Option.map_some, ql1] at HP1
  simp only [Option.map_some, ql2] at HP2
  simp only [Kl] at HS1
  simp only [Ll] at HS2
  obtain ⟨ans, hans⟩ : ∃ ans, ans = qFst K L := ⟨_, rfl⟩
  rw [← hans]
  have t1 : ((tot1 : Int) != (tot2 : Int)) = false := by simp; omega
  clear hts m1 m2 hq1 hq2 htot1
  replace hans := Lib.hid hans
  replace hK := Lib.hid hK
  replace hL := Lib.hid hL
  replace hN := Lib.hid hN
  replace hP1 := Lib.hid hP1
  replace hP2 := Lib.hid hP2
  replace HP1 := Lib.hid HP1
  replace HP2 := Lib.hid HP2
  replace HS1 := Lib.hid HS1
  replace HS2 := Lib.hid HS2
  replace K64 := Lib.hid K64
  replace L64 := Lib.hid L64
  replace Kl := Lib.hid Kl
  replace Ll := Lib.hid Ll
  replace ql1 := Lib.hid ql1
  replace ql2 := Lib.hid ql2
  replace hrr := Lib.hid hrr
  replace hxx := Lib.hid hxx
  have rv1 : (r1.map bv).length = 32 := by rw [List.length_map, r132]
  have xv1 : (x1.map bv).length = 32 := by rw [List.length_map, x132]
  have rv2 : (r2.map bv).length = 32 := by rw [List.length_map, r232]
  have xv2 : (x2.map bv).length = 32 := by rw [List.length_map, x232]
  have rone1 : (r1.map bv).all (·.oneCell') = true := List.all_eq_true.2 (bv_one r1)
  have xone1 : (x1.map bv).all (·.oneCell') = true := List.all_eq_true.2 (bv_one x1)
  have rone2 : (r2.map bv).all (·.oneCell') = true := List.all_eq_true.2 (bv_one r2)
  have xone2 : (x2.map bv).all (·.oneCell') = true := List.all_eq_true.2 (bv_one x2)
  have hz := zeros_32
  rw [show List.replicate 32 (0 : UInt8) = zs32 from rfl] at hz
  obtain ⟨T, hT1⟩ : ∃ T, T = w.heap.size := ⟨_, rfl⟩
  obtain ⟨W, hW⟩ : ∃ W, W = (w.alloc (.cells (trc tot1 Ah1 nh1 ch1 Af1 nf1 cf1).toArray 33)).alloc (.cells (trc tot2 Ah2 nh2 ch2 Af2 nf2 cf2).toArray 33) := ⟨_, rfl⟩
  have bW : Below w.heap.size w W := by rw [hW]; exact ((Below.refl _ _).alloc (Nat.le_refl _) _).alloc (by simp) _
  have aT1 : Av W T 33 (trc tot1 Ah1 nh1 ch1 Af1 nf1 cf1) := by rw [hW, hT1]; exact Av.newer w (trc tot1 Ah1 nh1 ch1 Af1 nf1 cf1) _ _
  have aT2 : Av W (T + 1) 33 (trc tot2 Ah2 nh2 ch2 Af2 nf2 cf2) := by rw [hW, hT1, ← World.size_alloc w (.cells (trc tot1 Ah1 nh1 ch1 Af1 nf1 cf1).toArray 33)]; exact Av.new _ _ _
  have E1 := fun p q w => neqHw r1 r2 r132 r232 p q w
  have E3 := fun p q w => eqlHw x1 x2 x132 x232 p q w
  have HF2 := HF1 W bW
  replace HF2 := Lib.hid HF2
  replace HFb := Lib.hid HFb
  replace E1 := Lib.hid E1
  replace E3 := Lib.hid E3
  replace hW := Lib.hid hW
  replace hT1 := Lib.hid hT1
  replace rv1 := Lib.hid rv1
  replace xv1 := Lib.hid xv1
  replace rv2 := Lib.hid rv2
  replace xv2 := Lib.hid xv2
  replace rone1 := Lib.hid rone1
  replace xone1 := Lib.hid xone1
  replace rone2 := Lib.hid rone2
  replace xone2 := Lib.hid xone2
  replace r132 := Lib.hid r132
  replace x132 := Lib.hid x132
  replace r232 := Lib.hid r232
  replace x232 := Lib.hid x232
  replace hnh1 := Lib.hid hnh1
  replace hnf1 := Lib.hid hnf1
  replace hnh2 := Lib.hid hnh2
  replace hnf2 := Lib.hid hnf2
  clear HF1
  go_enter Tryd.func14, Tryd.ntmps14
  go_upto_region 1 with fail
  rw [← hT1.out]
  rw [← hW.out]
  go_upto_region 2 with (first
    | ((with_reducible refine wpList_loadF 33 aT1 ?_ _ 3 ?_ Tryd.underlying33 ?_ ?_ ?_); rfl; rfl; rfl; kernel_rfl)
    | (go_at_call 31; refine (HF2.out).mono ?_; rintro e w1 ⟨b1, rfl⟩)
    | ((with_reducible refine wpList_storeF 28 (((Below.refl w1.heap.size w1).alloc (Nat.le_refl _) _).alloc (by simp) _) (heap_alloc2_old _ _ _) (Nat.le_refl _) (r1.map bv) ?_ ?_ 32 rv1.out ?_ ?_ ?_ ?_); rfl; rfl; kernel_rfl; rfl; exact rone1.out; intro w2 a2 b2 k2 z2)
    | ((with_reducible refine wpList_storeF 28 b2 ((k2 _ (by omega)).trans (heap_alloc2_new _ _ _)) (by omega) (x1.map bv) ?_ ?_ 32 xv1.out ?_ ?_ ?_ ?_); rfl; rfl; kernel_rfl; rfl; exact xone1.out; intro w3 a3 b3 k3 z3))
  have a9 := a2.same (k3 _ (by omega))
  have bW3 := bW.trans ((b1.trans (b3.mono b1.size)).mono bW.size)
  have aT13 := (aT1.below b1).below b3
  have aT23 := (aT2.below b1).below b3
  obtain ⟨g9, hg9⟩ : ∃ g9, g9 = w1.heap.size := ⟨_, rfl⟩
  rw [← hg9] at a9 a3 ⊢
  have s3 : g9 + 1 < w3.heap.size := a3.lt
  have a10 := a3
  clear a2 b2 k2 z2 k3 z3 b3 b1 aT1 aT2 HF2 bW
  replace hg9 := Lib.hid hg9
  have HFb2 := HFb.out w3 bW3
  replace HFb2 := Lib.hid HFb2
  go_upto_region 3 with (first
    | ((with_reducible refine wpList_loadF 33 aT23 ?_ _ 3 ?_ Tryd.underlying33 ?_ ?_ ?_); rfl; rfl; rfl; kernel_rfl)
    | (go_at_call 31; refine (HFb2.out).mono ?_; rintro e w4 ⟨b4, rfl⟩)
    | ((with_reducible refine wpList_storeF 28 (((Below.refl w4.heap.size w4).alloc (Nat.le_refl _) _).alloc (by simp) _) (heap_alloc2_old _ _ _) (Nat.le_refl _) (r2.map bv) ?_ ?_ 32 rv2.out ?_ ?_ ?_ ?_); rfl; rfl; kernel_rfl; rfl; exact rone2.out; intro w5 a5 b5 k5 z5)
    | ((with_reducible refine wpList_storeF 28 b5 ((k5 _ (by omega)).trans (heap_alloc2_new _ _ _)) (by omega) (x2.map bv) ?_ ?_ 32 xv2.out ?_ ?_ ?_ ?_); rfl; rfl; kernel_rfl; rfl; exact xone2.out; intro w6 a6 b6 k6 z6))
  have a12 := a5.same (k6 _ (by omega))
  have bw6 := bW3.trans ((b4.trans (b6.mono b4.size)).mono bW3.size)
  have aT16 := (aT13.below b4).below b6
  have aT26 := (aT23.below b4).below b6
  have a96 := (a9.below b4).below b6
  have a106 := (a10.below b4).below b6
  obtain ⟨g12, hg12⟩ : ∃ g12, g12 = w4.heap.size := ⟨_, rfl⟩
  rw [← hg12] at a12 a6 ⊢
  have a13 := a6
  have cT1 := aT16.cell 0 _ rfl
  have cT2 := aT26.cell 0 _ rfl
  clear a5 b5 k5 z5 k6 z6 b6 b4 aT13 aT23 HFb HFb2 a9 a10 a3 a6 bW3
  replace hg12 := Lib.hid hg12
  replace E1 := E1.out
  replace E3 := E3.out
  rw [hrr.out] at E1
  rw [hxx.out] at E3
  replace E1 := Lib.hid E1
  replace E3 := Lib.hid E3
  go_upto_region 5 with (first
    | ((with_reducible refine wpList_loadG 28 a96 ?_ ?_ _ 32 rv1.out Tryd.underlying28 ?_ ?_ ?_); rfl; rfl; rfl; kernel_rfl)
    | ((with_reducible refine wpList_loadG 28 a12 ?_ ?_ _ 32 rv2.out Tryd.underlying28 ?_ ?_ ?_); rfl; rfl; rfl; kernel_rfl)
    | ((with_reducible refine wpList_loadG 28 a106 ?_ ?_ _ 32 xv1.out Tryd.underlying28 ?_ ?_ ?_); rfl; rfl; rfl; kernel_rfl)
    | ((with_reducible refine wpList_loadG 28 a13 ?_ ?_ _ 32 xv2.out Tryd.underlying28 ?_ ?_ ?_); rfl; rfl; rfl; kernel_rfl)
    | ((with_reducible refine wpList_binG (op := .neq) (ty := 28) ?_ ?_ ?_ (E1.out _ _ w6) ?_); rfl; rfl; rfl)
    | ((with_reducible refine wpList_binG (op := .eql) (ty := 28) ?_ ?_ ?_ (E3.out _ _ w6) ?_); rfl; rfl; rfl))
  have HP12 := HP1.out w6 bw6
  replace HP12 := Lib.hid HP12
  clear HP1 a96 a12 E1 E3 cT1 cT2
  go_upto_region 6 with (first
    | ((with_reducible refine wpList_loadF 33 aT16 ?_ _ 3 ?_ Tryd.underlying33 ?_ ?_ ?_); rfl; rfl; rfl; kernel_rfl)
    | (go_at_call 11; refine (HP12.out).mono ?_; rintro e w7 ⟨b7, A7, c7, rfl, hc7, hA7, rd7⟩))
  have bw7 := bw6.trans (b7.mono bw6.size)
  have HP22 := HP2.out w7 bw7
  have aT27 := aT26.below b7
  have a107 := a106.below b7
  have a137 := a13.below b7
  replace HP22 := Lib.hid HP22
  clear HP2 HP12 aT26 a106 a13 aT16 b7 bw6
  replace hA7 := Lib.hid hA7
  go_upto_region 7 with (first
    | ((with_reducible refine wpList_loadF 33 aT27 ?_ _ 3 ?_ Tryd.underlying33 ?_ ?_ ?_); rfl; rfl; rfl; kernel_rfl)
    | (go_at_call 11; refine (HP22.out).mono ?_; rintro e w8 ⟨b8, A8, c8, rfl, hc8, hA8, rd8⟩))
  have bw8 := bw7.trans (b8.mono bw7.size)
  have a108 := a107.below b8
  have a138 := a137.below b8
  have rd78 := rd7.below b8
  have HS12 := Lib.hid (fun w' (b : Below w8.heap.size w8 w') => HS1.out A7 c7 w' (rd78.below b) (hT.below (bw8.trans (b.mono bw8.size))))
  have HS22 := Lib.hid (fun w' (b : Below w8.heap.size w8 w') => HS2.out A8 c8 w' (rd8.below b) (hT.below (bw8.trans (b.mono bw8.size))))
  clear HP22 aT27 a107 a137 b8 bw7 HS1 HS2 rd7
  replace hA8 := Lib.hid hA8
  refine wp_region_rel [(3, StW N K), (7, StW N L), (8, StW N K), (9, StW N L)] Ext (by kernel_rfl) (by kernel_rfl) (by kernel_rfl) Ext.refl Ext.trans (by
    intro p hp v w w' hR
    simp only [List.mem_cons, List.not_mem_nil, or_false] at hp
    rcases hp with rfl | rfl | rfl | rfl
    · exact StW.mono hR
    · exact StW.mono hR
    · exact StW.mono hR
    · exact StW.mono hR) ?_
  refine relPure Ext.refl rfl rfl rfl rfl (c := .agg (hcs x1)) (fun w hw => exec_loadAv (a108.below hw.drew) _ _ rfl rfl _ 32 xv1.out Tryd.underlying28 rfl (by kernel_rfl)) (by simp only [List.set_cons_succ, List.set_cons_zero]; rfl) ?_
  refine relMove Ext.refl rfl rfl rfl rfl _ (.inl rfl) (by conv => lhs; whnf) (by simp only [List.set_cons_succ, List.set_cons_zero]; rfl) ?_
  refine relMove Ext.refl rfl rfl rfl rfl _ (.inl rfl) (by conv => lhs; whnf) (by simp only [List.set_cons_succ, List.set_cons_zero]; rfl) ?_
  refine relCall _ rfl rfl rfl 20 #[.agg (hcs x1), .slice A7 N c7, .int .i64 pos] (fun w => by go_simp) (fun w hw => (HS12.out w hw.drew).mono ?_) ?_
  · rintro r w' ⟨hb, A, c, gs, rfl, _, _, _, hrd, hst⟩
    exact ⟨_, rfl, hb, A, c, gs, rfl, hrd, hst⟩
  refine relPure Ext.refl rfl rfl rfl rfl (c := .agg (hcs x2)) (fun w hw => exec_loadAv (a138.below hw.drew) _ _ rfl rfl _ 32 xv2.out Tryd.underlying28 rfl (by kernel_rfl)) (by simp only [List.set_cons_succ, List.set_cons_zero]; rfl) ?_
  refine relMove Ext.refl rfl rfl rfl rfl _ (.inl rfl) (by conv => lhs; whnf) (by simp only [List.set_cons_succ, List.set_cons_zero]; rfl) ?_
  refine relMove Ext.refl rfl rfl rfl rfl _ (.inl rfl) (by conv => lhs; whnf) (by simp only [List.set_cons_succ, List.set_cons_zero]; rfl) ?_
  refine relCall _ rfl rfl rfl 20 #[.agg (hcs x2), .slice A8 N c8, .int .i64 pos] (fun w => by go_simp) (fun w hw => (HS22.out w hw.drew).mono ?_) ?_
  · rintro r w' ⟨hb, A, c, gs, rfl, _, _, _, hrd, hst⟩
    exact ⟨_, rfl, hb, A, c, gs, rfl, hrd, hst⟩
  refine relWord _ rfl (fun w hw => fill_take rfl rfl fun u hu => fill_none rfl (relOp_yes rfl ?_)) ?_
  · go_simp
    exact ⟨Ext.refl _, hu⟩
  refine relWord _ rfl (fun w hw => fill_skip rfl (fill_take rfl rfl fun u hu => fill_none rfl (relOp_yes rfl ?_))) ?_
  · go_simp
    exact ⟨Ext.refl _, hu⟩
  refine relEnd fun w9 hw9 => fill_take rfl rfl fun v3 h3 => fill_take rfl rfl fun v7 h7 => fill_take rfl rfl fun v8 h8 => fill_take rfl rfl fun v9 h9 => fill_end ?_
  obtain ⟨_, _, _, rfl, -, -⟩ := h3
  obtain ⟨_, _, _, rfl, -, -⟩ := h7
  obtain ⟨A1, c1, gs1, rfl, rg1, st1⟩ := h8
  obtain ⟨A2, c2, gs2, rfl, rg2, st2⟩ := h9
  simp only [List.set_cons_succ, List.set_cons_zero]
  have bw9 := bw8.trans (hw9.drew.mono bw8.size)
  have hn1 : gs1.length = N := st1.1.trans Kl.out
  have hn2 : gs2.length = N := st2.1.trans Ll.out
  have hmin : min (N : Int) (N : Int) = (N : Int) := by omega
  have hmin2 : (if (N : Int) < (N : Int) then (N : Int) else (N : Int)) = (N : Int) := by rw [if_neg (by omega)]
  clear a108 a138 rd78 rd8 HS12 HS22 bw8 hw9
  replace hn1 := Lib.hid hn1
  replace hn2 := Lib.hid hn2
  go_wp2
  clear hmin hmin2
  go_loopw [21, 22, 23, 86] (fun _ _ _ s wr => ∃ j : Nat, j ≤ N ∧ s = .int .i64 (j : Int) ∧ Hid (qFst (K.drop j) (L.drop j) = ans) ∧ Below w9.heap.size w9 wr) (fun _ _ _ s _ => N - (intOf s).toNat)
  case atStart => exact ⟨0, Nat.zero_le _, rfl, Lib.hid (by rw [hans.out]; rfl), Below.refl _ _⟩
  case round =>
    obtain ⟨j, hj, rfl, hd, bwr⟩ := hrel
    by_cases hlt : j < N
    · have u1 : decide ((j : Int) < (N : Int)) = true := by simp; omega
      have n0 : 0 ≤ (j : Int) := by omega
      have n1 : (j : Int) < (N : Int) := by omega
      obtain ⟨G1, hG1⟩ : ∃ G1, gs1[j]? = some G1 := ⟨_, List.getElem?_eq_getElem (by rw [hn1.out]; exact hlt)⟩
      obtain ⟨G2, hG2⟩ : ∃ G2, gs2[j]? = some G2 := ⟨_, List.getElem?_eq_getElem (by rw [hn2.out]; exact hlt)⟩
      have hjK : j < K.length := by rw [Kl.out]; exact hlt
      have hjL : j < L.length := by rw [Ll.out]; exact hlt
      obtain ⟨k1, hk1⟩ : ∃ k1, K[j]? = some k1 := ⟨_, List.getElem?_eq_getElem hjK⟩
      obtain ⟨l1, hl1⟩ : ∃ l1, L[j]? = some l1 := ⟨_, List.getElem?_eq_getElem hjL⟩
      have k64 := K64.out k1 (List.mem_of_getElem? hk1)
      have l64 := L64.out l1 (List.mem_of_getElem? hl1)
      have hd2 : qFst (K.drop j) (L.drop j) = if dblB k1 = dblB l1 then some (k1, l1) else qFst (K.drop (j + 1)) (L.drop (j + 1)) := by
        rw [List.drop_eq_getElem_cons hjK, List.drop_eq_getElem_cons hjL, (List.getElem?_eq_some_iff.1 hk1).2, (List.getElem?_eq_some_iff.1 hl1).2, qFst]
      rw [hd.out] at hd2
      have e1 := slc_get hG1
      have e2 := slc_get hG2
      obtain ⟨b1, o1, rfl⟩ := rg1.someA (by intro e; rw [e] at e1; cases e1)
      obtain ⟨b2, o2, rfl⟩ := rg2.someA (by intro e; rw [e] at e2; cases e2)
      have hc1 : ∀ w', Rd w' (some ⟨b1, o1, none⟩) (slc gs1) → w'.cell? ⟨b1, o1 + j, none⟩ = some (.slice (some ⟨G1, 0, none⟩) 64 64) := by
        intro w' h
        rcases h with h | ⟨b', o', hA', hc⟩
        · rw [h] at e1; cases e1
        · cases hA'; exact hc j _ e1
      have hc2 : ∀ w', Rd w' (some ⟨b2, o2, none⟩) (slc gs2) → w'.cell? ⟨b2, o2 + j, none⟩ = some (.slice (some ⟨G2, 0, none⟩) 64 64) := by
        intro w' h
        rcases h with h | ⟨b', o', hA', hc⟩
        · rw [h] at e2; cases e2
        · cases hA'; exact hc j _ e2
      have ag1 := (st1.2 j G1 k1 hG1 hk1).below bwr
      have ag2 := (st2.2 j G2 l1 hG2 hl1).below bwr
      have ra1 := rg1.below bwr
      have ra2 := rg2.below bwr
      have bwr2 := bw9.trans (bwr.mono bw9.size)
      have hTr := hT.below bwr2
      have HD1 := fun w' r t => Double k1 (some ⟨G1, 0, none⟩) 64 64 k64 (Nat.le_refl _) (by omega) w' r t
      have HD2 := fun w' r t => Double l1 (some ⟨G2, 0, none⟩) 64 64 l64 (Nat.le_refl _) (by omega) w' r t
      have HS1 := fun w' r t => Sum k1 (some ⟨G1, 0, none⟩) 64 64 k64 (Nat.le_refl _) (by omega) w' r t
      have HS2 := fun w' r t => Sum l1 (some ⟨G2, 0, none⟩) 64 64 l64 (Nat.le_refl _) (by omega) w' r t
      have z1l := dblB_length k1
      have z2l := dblB_length l1
      have s1l := sumB_length k1
      have s2l := sumB_length l1
      have hwt : qWit (k1, l1) = if sumB k1 = sumB l1 then (k1, l1) else (sumB k1, sumB l1) := rfl
      obtain ⟨z1, hz1⟩ : ∃ z, z = dblB k1 := ⟨_, rfl⟩
      obtain ⟨z2, hz2⟩ : ∃ z, z = dblB l1 := ⟨_, rfl⟩
      obtain ⟨y1, hy1⟩ : ∃ z, z = sumB k1 := ⟨_, rfl⟩
      obtain ⟨y2, hy2⟩ : ∃ z, z = sumB l1 := ⟨_, rfl⟩
      rw [← hz1] at hd2 HD1 z1l
      rw [← hz2] at hd2 HD2 z2l
      rw [← hy1] at HS1 s1l hwt
      rw [← hy2] at HS2 s2l hwt
      have E4 := fun p q w => neqHw z1 z2 z1l z2l p q w
      have E5 := fun p q w => eqlHw y1 y2 s1l s2l p q w
      have s132 : (y1.map bv).length = 32 := by rw [List.length_map, s1l]
      have s232 : (y2.map bv).length = 32 := by rw [List.length_map, s2l]
      have s1one : (y1.map bv).all (·.oneCell') = true := List.all_eq_true.2 (bv_one _)
      have s2one : (y2.map bv).all (·.oneCell') = true := List.all_eq_true.2 (bv_one _)
      replace hz1 := Lib.hid hz1
      replace hz2 := Lib.hid hz2
      replace hy1 := Lib.hid hy1
      replace hy2 := Lib.hid hy2
      replace z1l := Lib.hid z1l
      replace z2l := Lib.hid z2l
      replace s1l := Lib.hid s1l
      replace s2l := Lib.hid s2l
      replace hwt := Lib.hid hwt
      clear hd e1 e2 hjK hjL hG1 hG2 hk1 hl1
      replace hd2 := Lib.hid hd2
      replace hc1 := Lib.hid hc1
      replace hc2 := Lib.hid hc2
      replace HD1 := Lib.hid HD1
      replace HD2 := Lib.hid HD2
      replace HS1 := Lib.hid HS1
      replace HS2 := Lib.hid HS2
      replace k64 := Lib.hid k64
      replace l64 := Lib.hid l64
      replace s132 := Lib.hid s132
      replace s232 := Lib.hid s232
      replace s1one := Lib.hid s1one
      replace s2one := Lib.hid s2one
      obtain ⟨E, hE⟩ : ∃ E, E = (z1 == z2) := ⟨_, rfl⟩
      rw [← hE] at E4
      replace hE := Lib.hid hE
      replace E4 := Lib.hid E4
      replace E5 := Lib.hid E5
      go_upto_region 11 with fail
      refine wp_region_rel [] Ext (by kernel_rfl) (by kernel_rfl) (by kernel_rfl) Ext.refl Ext.trans (by intro p hp; cases hp) ?_
      refine relMove Ext.refl rfl rfl rfl rfl _ (.inl rfl) (by conv => lhs; whnf) (by simp only [List.set_cons_succ, List.set_cons_zero]; rfl) ?_
      refine relMove Ext.refl rfl rfl rfl rfl _ (.inl rfl) (by conv => lhs; whnf) (by simp only [List.set_cons_succ, List.set_cons_zero]; rfl) ?_
      refine relPure Ext.refl rfl rfl rfl rfl (c := .pointer (some ⟨b1, o1 + j, none⟩)) (fun w _ => by go_simp; first | done | rfl) (by simp only [List.set_cons_succ, List.set_cons_zero]; rfl) ?_
      refine relPure Ext.refl rfl rfl rfl rfl (c := .slice (some ⟨G1, 0, none⟩) 64 64) (fun w hw => by have := hc1.out _ (ra1.below hw.drew); go_simp; first | done | rfl) (by simp only [List.set_cons_succ, List.set_cons_zero]; rfl) ?_
      refine relCall1 rfl rfl rfl rfl (c := .agg (hcs z1)) 26 #[.slice (some ⟨G1, 0, none⟩) 64 64] (fun w => by go_simp) (fun w hw => (HD1.out w (ag1.below hw.drew).rd (hTr.below hw.drew)).mono ?_) (by simp only [List.set_cons_succ, List.set_cons_zero]; rfl) ?_
      · rintro e w' ⟨rfl, b⟩
        exact ⟨rfl, b⟩
      refine relMove Ext.refl rfl rfl rfl rfl _ (.inl rfl) (by conv => lhs; whnf) (by simp only [List.set_cons_succ, List.set_cons_zero]; rfl) ?_
      refine relMove Ext.refl rfl rfl rfl rfl _ (.inl rfl) (by conv => lhs; whnf) (by simp only [List.set_cons_succ, List.set_cons_zero]; rfl) ?_
      refine relPure Ext.refl rfl rfl rfl rfl (c := .pointer (some ⟨b2, o2 + j, none⟩)) (fun w _ => by go_simp; first | done | rfl) (by simp only [List.set_cons_succ, List.set_cons_zero]; rfl) ?_
      refine relPure Ext.refl rfl rfl rfl rfl (c := .slice (some ⟨G2, 0, none⟩) 64 64) (fun w hw => by have := hc2.out _ (ra2.below hw.drew); go_simp; first | done | rfl) (by simp only [List.set_cons_succ, List.set_cons_zero]; rfl) ?_
      refine relCall1 rfl rfl rfl rfl (c := .agg (hcs z2)) 26 #[.slice (some ⟨G2, 0, none⟩) 64 64] (fun w => by go_simp) (fun w hw => (HD2.out w (ag2.below hw.drew).rd (hTr.below hw.drew)).mono ?_) (by simp only [List.set_cons_succ, List.set_cons_zero]; rfl) ?_
      · rintro e w' ⟨rfl, b⟩
        exact ⟨rfl, b⟩
      refine relBin Ext.refl rfl rfl rfl rfl .neq _ _ _ _ rfl (by conv => lhs; whnf) (by conv => lhs; whnf) (fun w => E4.out _ _ w) (by simp only [List.set_cons_succ, List.set_cons_zero]; rfl) ?_
      refine relEnd fun wb hwb => fill_end ?_
      have bb := hwb.drew
      have bwb := bwr.trans (bb.mono bwr.size)
      clear HD1 HD2
      cases E with
      | false =>
        have hne : ¬ z1 = z2 := fun h => by have := hE.out; rw [h] at this; simp at this
        have hd3 : qFst (K.drop (j + 1)) (L.drop (j + 1)) = ans := by rw [hd2.out, if_neg hne]
        clear hne
        replace hd3 := Lib.hid hd3
        simp only [Bool.not_false]
        go_wp2
        refine ⟨⟨j + 1, by omega, by go_num, hd3, bwb⟩, ?_⟩
        simp only [intOf]
        omega
      | true =>
        have heq : z1 = z2 := by have := hE.out; exact beq_iff_eq.1 this.symm
        have ha : ans = some (k1, l1) := by rw [hd2.out, if_pos heq]
        clear heq
        replace ha := Lib.hid ha
        replace ag1 := ag1.below bb
        replace ag2 := ag2.below bb
        replace ra1 := ra1.below bb
        replace ra2 := ra2.below bb
        replace bwr2 := bwr2.trans (bb.mono bwr2.size)
        have hTb := hTr.below bb
        simp only [Bool.not_true]
        go_upto_region 12 with fail
        clear hTr bwb
        go_cut [22, 23] from 87 to 123 (fun a b wc => TwoAt wb y1 y2 a b wc)
        case first =>
          rename_i J1 K1 hJ1 hK1
          have bw0 : Below wb.heap.size wb wb.drew := ⟨rfl, rfl, rfl, Nat.le_refl _, fun _ _ => rfl⟩
          refine wp_region_held (S := fun w' => Below wb.heap.size wb w') (by kernel_rfl) ?_
          change wpAnyH _ _ _ _ _ _ _ _ wb.drew
          generalize wb.drew = wq0 at *
          refine wpAnyH_takeD (i := 0) (v := .slice (some ⟨b1, o1, none⟩) N c1) (some 100) rfl rfl (by kernel_rfl) (by kernel_rfl) (by kernel_rfl) (fun _ _ _ h => h) (Or.inl ⟨by rfl, fun w' hS => by go_simp; first | done | rfl⟩) bw0 ?_
          simp only [List.set_cons_succ, List.set_cons_zero, Act.put, List.setIfInBounds_toArray]
          refine wpAnyH_takeD (i := 1) (v := .int .i64 (j : Int)) (some 101) rfl rfl (by kernel_rfl) (by kernel_rfl) (by kernel_rfl) (fun _ _ _ h => h) (Or.inl ⟨by rfl, fun w' hS => by go_simp; first | done | rfl⟩) bw0 ?_
          simp only [List.set_cons_succ, List.set_cons_zero, Act.put, List.setIfInBounds_toArray]
          refine wpAnyH_takeD (i := 2) (v := .pointer (some ⟨b1, o1 + j, none⟩)) (some 102) rfl rfl (by kernel_rfl) (by kernel_rfl) (by kernel_rfl) (fun _ _ _ h => h) (Or.inl ⟨by rfl, fun w' hS => by go_simp; first | done | rfl⟩) bw0 ?_
          simp only [List.set_cons_succ, List.set_cons_zero, Act.put, List.setIfInBounds_toArray]
          refine wpAnyH_takeD (i := 3) (v := .slice (some ⟨G1, 0, none⟩) 64 64) (some 103) rfl rfl (by kernel_rfl) (by kernel_rfl) (by kernel_rfl) (fun _ _ _ h => h) (Or.inl ⟨by rfl, fun w' hS => by have := hc1.out _ (ra1.below hS); go_simp; first | done | rfl⟩) bw0 ?_
          simp only [List.set_cons_succ, List.set_cons_zero, Act.put, List.setIfInBounds_toArray]
          refine wpAnyH_takeD (i := 5) (v := .slice (some ⟨b2, o2, none⟩) N c2) (some 105) rfl rfl (by kernel_rfl) (by kernel_rfl) (by kernel_rfl) (fun _ _ _ h => h) (Or.inl ⟨by rfl, fun w' hS => by go_simp; first | done | rfl⟩) bw0 ?_
          simp only [List.set_cons_succ, List.set_cons_zero, Act.put, List.setIfInBounds_toArray]
          refine wpAnyH_takeD (i := 6) (v := .int .i64 (j : Int)) (some 106) rfl rfl (by kernel_rfl) (by kernel_rfl) (by kernel_rfl) (fun _ _ _ h => h) (Or.inl ⟨by rfl, fun w' hS => by go_simp; first | done | rfl⟩) bw0 ?_
          simp only [List.set_cons_succ, List.set_cons_zero, Act.put, List.setIfInBounds_toArray]
          refine wpAnyH_takeD (i := 7) (v := .pointer (some ⟨b2, o2 + j, none⟩)) (some 107) rfl rfl (by kernel_rfl) (by kernel_rfl) (by kernel_rfl) (fun _ _ _ h => h) (Or.inl ⟨by rfl, fun w' hS => by go_simp; first | done | rfl⟩) bw0 ?_
          simp only [List.set_cons_succ, List.set_cons_zero, Act.put, List.setIfInBounds_toArray]
          refine wpAnyH_takeD (i := 8) (v := .slice (some ⟨G2, 0, none⟩) 64 64) (some 108) rfl rfl (by kernel_rfl) (by kernel_rfl) (by kernel_rfl) (fun _ _ _ h => h) (Or.inl ⟨by rfl, fun w' hS => by have := hc2.out _ (ra2.below hS); go_simp; first | done | rfl⟩) bw0 ?_
          simp only [List.set_cons_succ, List.set_cons_zero, Act.put, List.setIfInBounds_toArray]
          refine wpAnyH_all (rs := [4, 10, 11]) (by kernel_rfl) (by simp) ?_
          intro i hi
          simp only [List.mem_cons, List.not_mem_nil, or_false] at hi
          rcases hi with rfl | rfl | rfl
          · refine wpOp_callD rfl rfl (some 104) rfl 36 #[.slice (some ⟨G1, 0, none⟩) 64 64] (by go_simp) ((HS1.out wq0 (ag1.below bw0).rd (hTb.below bw0)).mono ?_)
            rintro e wq1 ⟨rfl, bn⟩
            have bq1 := bw0.trans (bn.mono bw0.size)
            refine ⟨_, rfl, bq1, ?_⟩
            simp only [List.set_cons_succ, List.set_cons_zero, Act.put, List.setIfInBounds_toArray]
            refine wpAnyH_all (rs := [9, 10, 11]) (by kernel_rfl) (by simp) ?_
            intro i hi
            simp only [List.mem_cons, List.not_mem_nil, or_false] at hi
            rcases hi with rfl | rfl | rfl
            · refine wpOp_callD rfl rfl (some 109) rfl 36 #[.slice (some ⟨G2, 0, none⟩) 64 64] (by go_simp) ((HS2.out wq1 (ag2.below bq1).rd (hTb.below bq1)).mono ?_)
              rintro e wq2 ⟨rfl, bn⟩
              have bq2 := bq1.trans (bn.mono bq1.size)
              refine ⟨_, rfl, bq2, ?_⟩
              simp only [List.set_cons_succ, List.set_cons_zero, Act.put, List.setIfInBounds_toArray]
              refine wpAnyH_all (rs := [10, 11]) (by kernel_rfl) (by simp) ?_
              intro i hi
              simp only [List.mem_cons, List.not_mem_nil, or_false] at hi
              rcases hi with rfl | rfl
              · refine wpOp_runW rfl rfl (some 22) rfl (exec_allocH _ rfl) ⟨bq2.alloc bq2.size _, ?_⟩
                have cg : Av (wq2.alloc (.cells (zs32.map bv).toArray 28)) wq2.heap.size 28 (zs32.map bv) := Av.new _ _ _
                have bq3 := bq2.alloc bq2.size (.cells (zs32.map bv).toArray 28)
                obtain ⟨g, hg⟩ : ∃ g, g = wq2.heap.size := ⟨_, rfl⟩
                rw [← hg] at cg ⊢
                have hgw : wb.heap.size ≤ g := by rw [hg]; exact bq2.size
                generalize wq2.alloc (.cells (zs32.map bv).toArray 28) = wq3 at *
                simp only [List.set_cons_succ, List.set_cons_zero, Act.put, List.setIfInBounds_toArray]
                refine wpAnyH_all (rs := [11]) (by kernel_rfl) (by simp) ?_
                intro i hi
                obtain rfl := List.mem_singleton.1 hi
                refine wpOp_runW rfl rfl (some 23) rfl (exec_allocH _ rfl) ⟨bq3.alloc bq3.size _, ?_⟩
                have cq : Av (wq3.alloc (.cells (zs32.map bv).toArray 28)) wq3.heap.size 28 (zs32.map bv) := Av.new _ _ _
                have bq4 := bq3.alloc bq3.size (.cells (zs32.map bv).toArray 28)
                have cglt := cg.lt
                have cg := cg.alloc (.cells (zs32.map bv).toArray 28)
                obtain ⟨q, hq⟩ : ∃ q, q = wq3.heap.size := ⟨_, rfl⟩
                rw [← hq] at cq ⊢
                have hqw : wb.heap.size ≤ q := by rw [hq]; exact bq3.size
                have ng : g ≠ q := by omega
                generalize wq3.alloc (.cells (zs32.map bv).toArray 28) = wq4 at *
                simp only [List.set_cons_succ, List.set_cons_zero, Act.put, List.setIfInBounds_toArray]
                refine wpAnyH_all (rs := [12]) (by kernel_rfl) (by simp) ?_
                intro i hi
                obtain rfl := List.mem_singleton.1 hi
                refine wpOp_storeAv cg (C := y1.map bv) (by rw [s132.out]; rfl) rfl rfl _ _ _ rfl rfl rfl rfl 32 s132.out (by kernel_rfl) s1one.out ?_
                intro wy c16 f6
                have c26 := f6.av cq (Ne.symm ng)
                have by6 := bq4.trans (f6.below (fun j e => by omega) bq4.size)
                refine ⟨by6, ?_⟩
                refine wpAnyH_all (rs := [13]) (by kernel_rfl) (by simp) ?_
                intro i hi
                obtain rfl := List.mem_singleton.1 hi
                refine wpOp_storeAv c26 (C := y2.map bv) (by rw [s232.out]; rfl) rfl rfl _ _ _ rfl rfl rfl rfl 32 s232.out (by kernel_rfl) s2one.out ?_
                intro wz c27 f7
                have c17 := f7.av c16 ng
                have bz7 := by6.trans (f7.below (fun j e => by omega) by6.size)
                refine ⟨bz7, ?_⟩
                refine wpAnyH_done (by kernel_rfl) ?_ _
                try simp only [List.set_cons_succ, List.set_cons_zero, Act.put, List.setIfInBounds_toArray]
                refine hK1 _ _ ?_
                go_meet
                exact ⟨g, q, rfl, rfl, ng, hgw, hqw, c17, c27, bz7⟩
              · refine wpOp_runW rfl rfl (some 23) rfl (exec_allocH _ rfl) ⟨bq2.alloc bq2.size _, ?_⟩
                have cq : Av (wq2.alloc (.cells (zs32.map bv).toArray 28)) wq2.heap.size 28 (zs32.map bv) := Av.new _ _ _
                have bq5 := bq2.alloc bq2.size (.cells (zs32.map bv).toArray 28)
                obtain ⟨q, hq⟩ : ∃ q, q = wq2.heap.size := ⟨_, rfl⟩
                rw [← hq] at cq ⊢
                have hqw : wb.heap.size ≤ q := by rw [hq]; exact bq2.size
                generalize wq2.alloc (.cells (zs32.map bv).toArray 28) = wq5 at *
                simp only [List.set_cons_succ, List.set_cons_zero, Act.put, List.setIfInBounds_toArray]
                refine wpAnyH_all (rs := [10]) (by kernel_rfl) (by simp) ?_
                intro i hi
                obtain rfl := List.mem_singleton.1 hi
                refine wpOp_runW rfl rfl (some 22) rfl (exec_allocH _ rfl) ⟨bq5.alloc bq5.size _, ?_⟩
                have cg : Av (wq5.alloc (.cells (zs32.map bv).toArray 28)) wq5.heap.size 28 (zs32.map bv) := Av.new _ _ _
                have bq6 := bq5.alloc bq5.size (.cells (zs32.map bv).toArray 28)
                have cqlt := cq.lt
                have cq := cq.alloc (.cells (zs32.map bv).toArray 28)
                obtain ⟨g, hg⟩ : ∃ g, g = wq5.heap.size := ⟨_, rfl⟩
                rw [← hg] at cg ⊢
                have hgw : wb.heap.size ≤ g := by rw [hg]; exact bq5.size
                have ng : g ≠ q := by omega
                generalize wq5.alloc (.cells (zs32.map bv).toArray 28) = wq6 at *
                simp only [List.set_cons_succ, List.set_cons_zero, Act.put, List.setIfInBounds_toArray]
                refine wpAnyH_all (rs := [12]) (by kernel_rfl) (by simp) ?_
                intro i hi
                obtain rfl := List.mem_singleton.1 hi
                refine wpOp_storeAv cg (C := y1.map bv) (by rw [s132.out]; rfl) rfl rfl _ _ _ rfl rfl rfl rfl 32 s132.out (by kernel_rfl) s1one.out ?_
                intro wy c16 f6
                have c26 := f6.av cq (Ne.symm ng)
                have by6 := bq6.trans (f6.below (fun j e => by omega) bq6.size)
                refine ⟨by6, ?_⟩
                refine wpAnyH_all (rs := [13]) (by kernel_rfl) (by simp) ?_
                intro i hi
                obtain rfl := List.mem_singleton.1 hi
                refine wpOp_storeAv c26 (C := y2.map bv) (by rw [s232.out]; rfl) rfl rfl _ _ _ rfl rfl rfl rfl 32 s232.out (by kernel_rfl) s2one.out ?_
                intro wz c27 f7
                have c17 := f7.av c16 ng
                have bz7 := by6.trans (f7.below (fun j e => by omega) by6.size)
                refine ⟨bz7, ?_⟩
                refine wpAnyH_done (by kernel_rfl) ?_ _
                try simp only [List.set_cons_succ, List.set_cons_zero, Act.put, List.setIfInBounds_toArray]
                refine hK1 _ _ ?_
                go_meet
                exact ⟨g, q, rfl, rfl, ng, hgw, hqw, c17, c27, bz7⟩
            · refine wpOp_runW rfl rfl (some 22) rfl (exec_allocH _ rfl) ⟨bq1.alloc bq1.size _, ?_⟩
              have cg : Av (wq1.alloc (.cells (zs32.map bv).toArray 28)) wq1.heap.size 28 (zs32.map bv) := Av.new _ _ _
              have bq7 := bq1.alloc bq1.size (.cells (zs32.map bv).toArray 28)
              obtain ⟨g, hg⟩ : ∃ g, g = wq1.heap.size := ⟨_, rfl⟩
              rw [← hg] at cg ⊢
              have hgw : wb.heap.size ≤ g := by rw [hg]; exact bq1.size
              generalize wq1.alloc (.cells (zs32.map bv).toArray 28) = wq7 at *
              simp only [List.set_cons_succ, List.set_cons_zero, Act.put, List.setIfInBounds_toArray]
              refine wpAnyH_all (rs := [9, 11]) (by kernel_rfl) (by simp) ?_
              intro i hi
              simp only [List.mem_cons, List.not_mem_nil, or_false] at hi
              rcases hi with rfl | rfl
              · refine wpOp_callD rfl rfl (some 109) rfl 36 #[.slice (some ⟨G2, 0, none⟩) 64 64] (by go_simp) ((HS2.out wq7 (ag2.below bq7).rd (hTb.below bq7)).mono ?_)
                rintro e wq8 ⟨rfl, bn⟩
                have bq8 := bq7.trans (bn.mono bq7.size)
                refine ⟨_, rfl, bq8, ?_⟩
                simp only [List.set_cons_succ, List.set_cons_zero, Act.put, List.setIfInBounds_toArray]
                have cg := cg.below bn
                refine wpAnyH_all (rs := [11]) (by kernel_rfl) (by simp) ?_
                intro i hi
                obtain rfl := List.mem_singleton.1 hi
                refine wpOp_runW rfl rfl (some 23) rfl (exec_allocH _ rfl) ⟨bq8.alloc bq8.size _, ?_⟩
                have cq : Av (wq8.alloc (.cells (zs32.map bv).toArray 28)) wq8.heap.size 28 (zs32.map bv) := Av.new _ _ _
                have bq9 := bq8.alloc bq8.size (.cells (zs32.map bv).toArray 28)
                have cglt := cg.lt
                have cg := cg.alloc (.cells (zs32.map bv).toArray 28)
                obtain ⟨q, hq⟩ : ∃ q, q = wq8.heap.size := ⟨_, rfl⟩
                rw [← hq] at cq ⊢
                have hqw : wb.heap.size ≤ q := by rw [hq]; exact bq8.size
                have ng : g ≠ q := by omega
                generalize wq8.alloc (.cells (zs32.map bv).toArray 28) = wq9 at *
                simp only [List.set_cons_succ, List.set_cons_zero, Act.put, List.setIfInBounds_toArray]
                refine wpAnyH_all (rs := [12]) (by kernel_rfl) (by simp) ?_
                intro i hi
                obtain rfl := List.mem_singleton.1 hi
                refine wpOp_storeAv cg (C := y1.map bv) (by rw [s132.out]; rfl) rfl rfl _ _ _ rfl rfl rfl rfl 32 s132.out (by kernel_rfl) s1one.out ?_
                intro wy c16 f6
                have c26 := f6.av cq (Ne.symm ng)
                have by6 := bq9.trans (f6.below (fun j e => by omega) bq9.size)
                refine ⟨by6, ?_⟩
                refine wpAnyH_all (rs := [13]) (by kernel_rfl) (by simp) ?_
                intro i hi
                obtain rfl := List.mem_singleton.1 hi
                refine wpOp_storeAv c26 (C := y2.map bv) (by rw [s232.out]; rfl) rfl rfl _ _ _ rfl rfl rfl rfl 32 s232.out (by kernel_rfl) s2one.out ?_
                intro wz c27 f7
                have c17 := f7.av c16 ng
                have bz7 := by6.trans (f7.below (fun j e => by omega) by6.size)
                refine ⟨bz7, ?_⟩
                refine wpAnyH_done (by kernel_rfl) ?_ _
                try simp only [List.set_cons_succ, List.set_cons_zero, Act.put, List.setIfInBounds_toArray]
                refine hK1 _ _ ?_
                go_meet
                exact ⟨g, q, rfl, rfl, ng, hgw, hqw, c17, c27, bz7⟩
              · refine wpOp_runW rfl rfl (some 23) rfl (exec_allocH _ rfl) ⟨bq7.alloc bq7.size _, ?_⟩
                have cq : Av (wq7.alloc (.cells (zs32.map bv).toArray 28)) wq7.heap.size 28 (zs32.map bv) := Av.new _ _ _
                have bq10 := bq7.alloc bq7.size (.cells (zs32.map bv).toArray 28)
                have cglt := cg.lt
                have cg := cg.alloc (.cells (zs32.map bv).toArray 28)
                obtain ⟨q, hq⟩ : ∃ q, q = wq7.heap.size := ⟨_, rfl⟩
                rw [← hq] at cq ⊢
                have hqw : wb.heap.size ≤ q := by rw [hq]; exact bq7.size
                have ng : g ≠ q := by omega
                generalize wq7.alloc (.cells (zs32.map bv).toArray 28) = wq10 at *
                simp only [List.set_cons_succ, List.set_cons_zero, Act.put, List.setIfInBounds_toArray]
                refine wpAnyH_all (rs := [9]) (by kernel_rfl) (by simp) ?_
                intro i hi
                obtain rfl := List.mem_singleton.1 hi
                refine wpOp_callD rfl rfl (some 109) rfl 36 #[.slice (some ⟨G2, 0, none⟩) 64 64] (by go_simp) ((HS2.out wq10 (ag2.below bq10).rd (hTb.below bq10)).mono ?_)
                rintro e wq11 ⟨rfl, bn⟩
                have bq11 := bq10.trans (bn.mono bq10.size)
                refine ⟨_, rfl, bq11, ?_⟩
                simp only [List.set_cons_succ, List.set_cons_zero, Act.put, List.setIfInBounds_toArray]
                have cg := cg.below bn
                have cq := cq.below bn
                refine wpAnyH_all (rs := [12]) (by kernel_rfl) (by simp) ?_
                intro i hi
                obtain rfl := List.mem_singleton.1 hi
                refine wpOp_storeAv cg (C := y1.map bv) (by rw [s132.out]; rfl) rfl rfl _ _ _ rfl rfl rfl rfl 32 s132.out (by kernel_rfl) s1one.out ?_
                intro wy c16 f6
                have c26 := f6.av cq (Ne.symm ng)
                have by6 := bq11.trans (f6.below (fun j e => by omega) bq11.size)
                refine ⟨by6, ?_⟩
                refine wpAnyH_all (rs := [13]) (by kernel_rfl) (by simp) ?_
                intro i hi
                obtain rfl := List.mem_singleton.1 hi
                refine wpOp_storeAv c26 (C := y2.map bv) (by rw [s232.out]; rfl) rfl rfl _ _ _ rfl rfl rfl rfl 32 s232.out (by kernel_rfl) s2one.out ?_
                intro wz c27 f7
                have c17 := f7.av c16 ng
                have bz7 := by6.trans (f7.below (fun j e => by omega) by6.size)
                refine ⟨bz7, ?_⟩
                refine wpAnyH_done (by kernel_rfl) ?_ _
                try simp only [List.set_cons_succ, List.set_cons_zero, Act.put, List.setIfInBounds_toArray]
                refine hK1 _ _ ?_
                go_meet
                exact ⟨g, q, rfl, rfl, ng, hgw, hqw, c17, c27, bz7⟩
            · refine wpOp_runW rfl rfl (some 23) rfl (exec_allocH _ rfl) ⟨bq1.alloc bq1.size _, ?_⟩
              have cq : Av (wq1.alloc (.cells (zs32.map bv).toArray 28)) wq1.heap.size 28 (zs32.map bv) := Av.new _ _ _
              have bq12 := bq1.alloc bq1.size (.cells (zs32.map bv).toArray 28)
              obtain ⟨q, hq⟩ : ∃ q, q = wq1.heap.size := ⟨_, rfl⟩
              rw [← hq] at cq ⊢
              have hqw : wb.heap.size ≤ q := by rw [hq]; exact bq1.size
              generalize wq1.alloc (.cells (zs32.map bv).toArray 28) = wq12 at *
              simp only [List.set_cons_succ, List.set_cons_zero, Act.put, List.setIfInBounds_toArray]
              refine wpAnyH_all (rs := [9, 10]) (by kernel_rfl) (by simp) ?_
              intro i hi
              simp only [List.mem_cons, List.not_mem_nil, or_false] at hi
              rcases hi with rfl | rfl
              · refine wpOp_callD rfl rfl (some 109) rfl 36 #[.slice (some ⟨G2, 0, none⟩) 64 64] (by go_simp) ((HS2.out wq12 (ag2.below bq12).rd (hTb.below bq12)).mono ?_)
                rintro e wq13 ⟨rfl, bn⟩
                have bq13 := bq12.trans (bn.mono bq12.size)
                refine ⟨_, rfl, bq13, ?_⟩
                simp only [List.set_cons_succ, List.set_cons_zero, Act.put, List.setIfInBounds_toArray]
                have cq := cq.below bn
                refine wpAnyH_all (rs := [10]) (by kernel_rfl) (by simp) ?_
                intro i hi
                obtain rfl := List.mem_singleton.1 hi
                refine wpOp_runW rfl rfl (some 22) rfl (exec_allocH _ rfl) ⟨bq13.alloc bq13.size _, ?_⟩
                have cg : Av (wq13.alloc (.cells (zs32.map bv).toArray 28)) wq13.heap.size 28 (zs32.map bv) := Av.new _ _ _
                have bq14 := bq13.alloc bq13.size (.cells (zs32.map bv).toArray 28)
                have cqlt := cq.lt
                have cq := cq.alloc (.cells (zs32.map bv).toArray 28)
                obtain ⟨g, hg⟩ : ∃ g, g = wq13.heap.size := ⟨_, rfl⟩
                rw [← hg] at cg ⊢
                have hgw : wb.heap.size ≤ g := by rw [hg]; exact bq13.size
                have ng : g ≠ q := by omega
                generalize wq13.alloc (.cells (zs32.map bv).toArray 28) = wq14 at *
                simp only [List.set_cons_succ, List.set_cons_zero, Act.put, List.setIfInBounds_toArray]
                refine wpAnyH_all (rs := [12]) (by kernel_rfl) (by simp) ?_
                intro i hi
                obtain rfl := List.mem_singleton.1 hi
                refine wpOp_storeAv cg (C := y1.map bv) (by rw [s132.out]; rfl) rfl rfl _ _ _ rfl rfl rfl rfl 32 s132.out (by kernel_rfl) s1one.out ?_
                intro wy c16 f6
                have c26 := f6.av cq (Ne.symm ng)
                have by6 := bq14.trans (f6.below (fun j e => by omega) bq14.size)
                refine ⟨by6, ?_⟩
                refine wpAnyH_all (rs := [13]) (by kernel_rfl) (by simp) ?_
                intro i hi
                obtain rfl := List.mem_singleton.1 hi
                refine wpOp_storeAv c26 (C := y2.map bv) (by rw [s232.out]; rfl) rfl rfl _ _ _ rfl rfl rfl rfl 32 s232.out (by kernel_rfl) s2one.out ?_
                intro wz c27 f7
                have c17 := f7.av c16 ng
                have bz7 := by6.trans (f7.below (fun j e => by omega) by6.size)
                refine ⟨bz7, ?_⟩
                refine wpAnyH_done (by kernel_rfl) ?_ _
                try simp only [List.set_cons_succ, List.set_cons_zero, Act.put, List.setIfInBounds_toArray]
                refine hK1 _ _ ?_
                go_meet
                exact ⟨g, q, rfl, rfl, ng, hgw, hqw, c17, c27, bz7⟩
              · refine wpOp_runW rfl rfl (some 22) rfl (exec_allocH _ rfl) ⟨bq12.alloc bq12.size _, ?_⟩
                have cg : Av (wq12.alloc (.cells (zs32.map bv).toArray 28)) wq12.heap.size 28 (zs32.map bv) := Av.new _ _ _
                have bq15 := bq12.alloc bq12.size (.cells (zs32.map bv).toArray 28)
                have cqlt := cq.lt
                have cq := cq.alloc (.cells (zs32.map bv).toArray 28)
                obtain ⟨g, hg⟩ : ∃ g, g = wq12.heap.size := ⟨_, rfl⟩
                rw [← hg] at cg ⊢
                have hgw : wb.heap.size ≤ g := by rw [hg]; exact bq12.size
                have ng : g ≠ q := by omega
                generalize wq12.alloc (.cells (zs32.map bv).toArray 28) = wq15 at *
                simp only [List.set_cons_succ, List.set_cons_zero, Act.put, List.setIfInBounds_toArray]
                refine wpAnyH_all (rs := [9]) (by kernel_rfl) (by simp) ?_
                intro i hi
                obtain rfl := List.mem_singleton.1 hi
                refine wpOp_callD rfl rfl (some 109) rfl 36 #[.slice (some ⟨G2, 0, none⟩) 64 64] (by go_simp) ((HS2.out wq15 (ag2.below bq15).rd (hTb.below bq15)).mono ?_)
                rintro e wq16 ⟨rfl, bn⟩
                have bq16 := bq15.trans (bn.mono bq15.size)
                refine ⟨_, rfl, bq16, ?_⟩
                simp only [List.set_cons_succ, List.set_cons_zero, Act.put, List.setIfInBounds_toArray]
                have cg := cg.below bn
                have cq := cq.below bn
                refine wpAnyH_all (rs := [12]) (by kernel_rfl) (by simp) ?_
                intro i hi
                obtain rfl := List.mem_singleton.1 hi
                refine wpOp_storeAv cg (C := y1.map bv) (by rw [s132.out]; rfl) rfl rfl _ _ _ rfl rfl rfl rfl 32 s132.out (by kernel_rfl) s1one.out ?_
                intro wy c16 f6
                have c26 := f6.av cq (Ne.symm ng)
                have by6 := bq16.trans (f6.below (fun j e => by omega) bq16.size)
                refine ⟨by6, ?_⟩
                refine wpAnyH_all (rs := [13]) (by kernel_rfl) (by simp) ?_
                intro i hi
                obtain rfl := List.mem_singleton.1 hi
                refine wpOp_storeAv c26 (C := y2.map bv) (by rw [s232.out]; rfl) rfl rfl _ _ _ rfl rfl rfl rfl 32 s232.out (by kernel_rfl) s2one.out ?_
                intro wz c27 f7
                have c17 := f7.av c16 ng
                have bz7 := by6.trans (f7.below (fun j e => by omega) by6.size)
                refine ⟨bz7, ?_⟩
                refine wpAnyH_done (by kernel_rfl) ?_ _
                try simp only [List.set_cons_succ, List.set_cons_zero, Act.put, List.setIfInBounds_toArray]
                refine hK1 _ _ ?_
                go_meet
                exact ⟨g, q, rfl, rfl, ng, hgw, hqw, c17, c27, bz7⟩
          · refine wpOp_runW rfl rfl (some 22) rfl (exec_allocH _ rfl) ⟨bw0.alloc bw0.size _, ?_⟩
            have cg : Av (wq0.alloc (.cells (zs32.map bv).toArray 28)) wq0.heap.size 28 (zs32.map bv) := Av.new _ _ _
            have bq17 := bw0.alloc bw0.size (.cells (zs32.map bv).toArray 28)
            obtain ⟨g, hg⟩ : ∃ g, g = wq0.heap.size := ⟨_, rfl⟩
            rw [← hg] at cg ⊢
            have hgw : wb.heap.size ≤ g := by rw [hg]; exact bw0.size
            generalize wq0.alloc (.cells (zs32.map bv).toArray 28) = wq17 at *
            simp only [List.set_cons_succ, List.set_cons_zero, Act.put, List.setIfInBounds_toArray]
            refine wpAnyH_all (rs := [4, 11]) (by kernel_rfl) (by simp) ?_
            intro i hi
            simp only [List.mem_cons, List.not_mem_nil, or_false] at hi
            rcases hi with rfl | rfl
            · refine wpOp_callD rfl rfl (some 104) rfl 36 #[.slice (some ⟨G1, 0, none⟩) 64 64] (by go_simp) ((HS1.out wq17 (ag1.below bq17).rd (hTb.below bq17)).mono ?_)
              rintro e wq18 ⟨rfl, bn⟩
              have bq18 := bq17.trans (bn.mono bq17.size)
              refine ⟨_, rfl, bq18, ?_⟩
              simp only [List.set_cons_succ, List.set_cons_zero, Act.put, List.setIfInBounds_toArray]
              have cg := cg.below bn
              refine wpAnyH_all (rs := [9, 11]) (by kernel_rfl) (by simp) ?_
              intro i hi
              simp only [List.mem_cons, List.not_mem_nil, or_false] at hi
              rcases hi with rfl | rfl
              · refine wpOp_callD rfl rfl (some 109) rfl 36 #[.slice (some ⟨G2, 0, none⟩) 64 64] (by go_simp) ((HS2.out wq18 (ag2.below bq18).rd (hTb.below bq18)).mono ?_)
                rintro e wq19 ⟨rfl, bn⟩
                have bq19 := bq18.trans (bn.mono bq18.size)
                refine ⟨_, rfl, bq19, ?_⟩
                simp only [List.set_cons_succ, List.set_cons_zero, Act.put, List.setIfInBounds_toArray]
                have cg := cg.below bn
                refine wpAnyH_all (rs := [11]) (by kernel_rfl) (by simp) ?_
                intro i hi
                obtain rfl := List.mem_singleton.1 hi
                refine wpOp_runW rfl rfl (some 23) rfl (exec_allocH _ rfl) ⟨bq19.alloc bq19.size _, ?_⟩
                have cq : Av (wq19.alloc (.cells (zs32.map bv).toArray 28)) wq19.heap.size 28 (zs32.map bv) := Av.new _ _ _
                have bq20 := bq19.alloc bq19.size (.cells (zs32.map bv).toArray 28)
                have cglt := cg.lt
                have cg := cg.alloc (.cells (zs32.map bv).toArray 28)
                obtain ⟨q, hq⟩ : ∃ q, q = wq19.heap.size := ⟨_, rfl⟩
                rw [← hq] at cq ⊢
                have hqw : wb.heap.size ≤ q := by rw [hq]; exact bq19.size
                have ng : g ≠ q := by omega
                generalize wq19.alloc (.cells (zs32.map bv).toArray 28) = wq20 at *
                simp only [List.set_cons_succ, List.set_cons_zero, Act.put, List.setIfInBounds_toArray]
                refine wpAnyH_all (rs := [12]) (by kernel_rfl) (by simp) ?_
                intro i hi
                obtain rfl := List.mem_singleton.1 hi
                refine wpOp_storeAv cg (C := y1.map bv) (by rw [s132.out]; rfl) rfl rfl _ _ _ rfl rfl rfl rfl 32 s132.out (by kernel_rfl) s1one.out ?_
                intro wy c16 f6
                have c26 := f6.av cq (Ne.symm ng)
                have by6 := bq20.trans (f6.below (fun j e => by omega) bq20.size)
                refine ⟨by6, ?_⟩
                refine wpAnyH_all (rs := [13]) (by kernel_rfl) (by simp) ?_
                intro i hi
                obtain rfl := List.mem_singleton.1 hi
                refine wpOp_storeAv c26 (C := y2.map bv) (by rw [s232.out]; rfl) rfl rfl _ _ _ rfl rfl rfl rfl 32 s232.out (by kernel_rfl) s2one.out ?_
                intro wz c27 f7
                have c17 := f7.av c16 ng
                have bz7 := by6.trans (f7.below (fun j e => by omega) by6.size)
                refine ⟨bz7, ?_⟩
                refine wpAnyH_done (by kernel_rfl) ?_ _
                try simp only [List.set_cons_succ, List.set_cons_zero, Act.put, List.setIfInBounds_toArray]
                refine hK1 _ _ ?_
                go_meet
                exact ⟨g, q, rfl, rfl, ng, hgw, hqw, c17, c27, bz7⟩
              · refine wpOp_runW rfl rfl (some 23) rfl (exec_allocH _ rfl) ⟨bq18.alloc bq18.size _, ?_⟩
                have cq : Av (wq18.alloc (.cells (zs32.map bv).toArray 28)) wq18.heap.size 28 (zs32.map bv) := Av.new _ _ _
                have bq21 := bq18.alloc bq18.size (.cells (zs32.map bv).toArray 28)
                have cglt := cg.lt
                have cg := cg.alloc (.cells (zs32.map bv).toArray 28)
                obtain ⟨q, hq⟩ : ∃ q, q = wq18.heap.size := ⟨_, rfl⟩
                rw [← hq] at cq ⊢
                have hqw : wb.heap.size ≤ q := by rw [hq]; exact bq18.size
                have ng : g ≠ q := by omega
                generalize wq18.alloc (.cells (zs32.map bv).toArray 28) = wq21 at *
                simp only [List.set_cons_succ, List.set_cons_zero, Act.put, List.setIfInBounds_toArray]
                refine wpAnyH_all (rs := [9]) (by kernel_rfl) (by simp) ?_
                intro i hi
                obtain rfl := List.mem_singleton.1 hi
                refine wpOp_callD rfl rfl (some 109) rfl 36 #[.slice (some ⟨G2, 0, none⟩) 64 64] (by go_simp) ((HS2.out wq21 (ag2.below bq21).rd (hTb.below bq21)).mono ?_)
                rintro e wq22 ⟨rfl, bn⟩
                have bq22 := bq21.trans (bn.mono bq21.size)
                refine ⟨_, rfl, bq22, ?_⟩
                simp only [List.set_cons_succ, List.set_cons_zero, Act.put, List.setIfInBounds_toArray]
                have cg := cg.below bn
                have cq := cq.below bn
                refine wpAnyH_all (rs := [12]) (by kernel_rfl) (by simp) ?_
                intro i hi
                obtain rfl := List.mem_singleton.1 hi
                refine wpOp_storeAv cg (C := y1.map bv) (by rw [s132.out]; rfl) rfl rfl _ _ _ rfl rfl rfl rfl 32 s132.out (by kernel_rfl) s1one.out ?_
                intro wy c16 f6
                have c26 := f6.av cq (Ne.symm ng)
                have by6 := bq22.trans (f6.below (fun j e => by omega) bq22.size)
                refine ⟨by6, ?_⟩
                refine wpAnyH_all (rs := [13]) (by kernel_rfl) (by simp) ?_
                intro i hi
                obtain rfl := List.mem_singleton.1 hi
                refine wpOp_storeAv c26 (C := y2.map bv) (by rw [s232.out]; rfl) rfl rfl _ _ _ rfl rfl rfl rfl 32 s232.out (by kernel_rfl) s2one.out ?_
                intro wz c27 f7
                have c17 := f7.av c16 ng
                have bz7 := by6.trans (f7.below (fun j e => by omega) by6.size)
                refine ⟨bz7, ?_⟩
                refine wpAnyH_done (by kernel_rfl) ?_ _
                try simp only [List.set_cons_succ, List.set_cons_zero, Act.put, List.setIfInBounds_toArray]
                refine hK1 _ _ ?_
                go_meet
                exact ⟨g, q, rfl, rfl, ng, hgw, hqw, c17, c27, bz7⟩
            · refine wpOp_runW rfl rfl (some 23) rfl (exec_allocH _ rfl) ⟨bq17.alloc bq17.size _, ?_⟩
              have cq : Av (wq17.alloc (.cells (zs32.map bv).toArray 28)) wq17.heap.size 28 (zs32.map bv) := Av.new _ _ _
              have bq23 := bq17.alloc bq17.size (.cells (zs32.map bv).toArray 28)
              have cglt := cg.lt
              have cg := cg.alloc (.cells (zs32.map bv).toArray 28)
              obtain ⟨q, hq⟩ : ∃ q, q = wq17.heap.size := ⟨_, rfl⟩
              rw [← hq] at cq ⊢
              have hqw : wb.heap.size ≤ q := by rw [hq]; exact bq17.size
              have ng : g ≠ q := by omega
              generalize wq17.alloc (.cells (zs32.map bv).toArray 28) = wq23 at *
              simp only [List.set_cons_succ, List.set_cons_zero, Act.put, List.setIfInBounds_toArray]
              refine wpAnyH_all (rs := [4]) (by kernel_rfl) (by simp) ?_
              intro i hi
              obtain rfl := List.mem_singleton.1 hi
              refine wpOp_callD rfl rfl (some 104) rfl 36 #[.slice (some ⟨G1, 0, none⟩) 64 64] (by go_simp) ((HS1.out wq23 (ag1.below bq23).rd (hTb.below bq23)).mono ?_)
              rintro e wq24 ⟨rfl, bn⟩
              have bq24 := bq23.trans (bn.mono bq23.size)
              refine ⟨_, rfl, bq24, ?_⟩
              simp only [List.set_cons_succ, List.set_cons_zero, Act.put, List.setIfInBounds_toArray]
              have cg := cg.below bn
              have cq := cq.below bn
              refine wpAnyH_all (rs := [9]) (by kernel_rfl) (by simp) ?_
              intro i hi
              obtain rfl := List.mem_singleton.1 hi
              refine wpOp_callD rfl rfl (some 109) rfl 36 #[.slice (some ⟨G2, 0, none⟩) 64 64] (by go_simp) ((HS2.out wq24 (ag2.below bq24).rd (hTb.below bq24)).mono ?_)
              rintro e wq25 ⟨rfl, bn⟩
              have bq25 := bq24.trans (bn.mono bq24.size)
              refine ⟨_, rfl, bq25, ?_⟩
              simp only [List.set_cons_succ, List.set_cons_zero, Act.put, List.setIfInBounds_toArray]
              have cg := cg.below bn
              have cq := cq.below bn
              refine wpAnyH_all (rs := [12]) (by kernel_rfl) (by simp) ?_
              intro i hi
              obtain rfl := List.mem_singleton.1 hi
              refine wpOp_storeAv cg (C := y1.map bv) (by rw [s132.out]; rfl) rfl rfl _ _ _ rfl rfl rfl rfl 32 s132.out (by kernel_rfl) s1one.out ?_
              intro wy c16 f6
              have c26 := f6.av cq (Ne.symm ng)
              have by6 := bq25.trans (f6.below (fun j e => by omega) bq25.size)
              refine ⟨by6, ?_⟩
              refine wpAnyH_all (rs := [13]) (by kernel_rfl) (by simp) ?_
              intro i hi
              obtain rfl := List.mem_singleton.1 hi
              refine wpOp_storeAv c26 (C := y2.map bv) (by rw [s232.out]; rfl) rfl rfl _ _ _ rfl rfl rfl rfl 32 s232.out (by kernel_rfl) s2one.out ?_
              intro wz c27 f7
              have c17 := f7.av c16 ng
              have bz7 := by6.trans (f7.below (fun j e => by omega) by6.size)
              refine ⟨bz7, ?_⟩
              refine wpAnyH_done (by kernel_rfl) ?_ _
              try simp only [List.set_cons_succ, List.set_cons_zero, Act.put, List.setIfInBounds_toArray]
              refine hK1 _ _ ?_
              go_meet
              exact ⟨g, q, rfl, rfl, ng, hgw, hqw, c17, c27, bz7⟩
          · refine wpOp_runW rfl rfl (some 23) rfl (exec_allocH _ rfl) ⟨bw0.alloc bw0.size _, ?_⟩
            have cq : Av (wq0.alloc (.cells (zs32.map bv).toArray 28)) wq0.heap.size 28 (zs32.map bv) := Av.new _ _ _
            have bq26 := bw0.alloc bw0.size (.cells (zs32.map bv).toArray 28)
            obtain ⟨q, hq⟩ : ∃ q, q = wq0.heap.size := ⟨_, rfl⟩
            rw [← hq] at cq ⊢
            have hqw : wb.heap.size ≤ q := by rw [hq]; exact bw0.size
            generalize wq0.alloc (.cells (zs32.map bv).toArray 28) = wq26 at *
            simp only [List.set_cons_succ, List.set_cons_zero, Act.put, List.setIfInBounds_toArray]
            refine wpAnyH_all (rs := [4, 10]) (by kernel_rfl) (by simp) ?_
            intro i hi
            simp only [List.mem_cons, List.not_mem_nil, or_false] at hi
            rcases hi with rfl | rfl
            · refine wpOp_callD rfl rfl (some 104) rfl 36 #[.slice (some ⟨G1, 0, none⟩) 64 64] (by go_simp) ((HS1.out wq26 (ag1.below bq26).rd (hTb.below bq26)).mono ?_)
              rintro e wq27 ⟨rfl, bn⟩
              have bq27 := bq26.trans (bn.mono bq26.size)
              refine ⟨_, rfl, bq27, ?_⟩
              simp only [List.set_cons_succ, List.set_cons_zero, Act.put, List.setIfInBounds_toArray]
              have cq := cq.below bn
              refine wpAnyH_all (rs := [9, 10]) (by kernel_rfl) (by simp) ?_
              intro i hi
              simp only [List.mem_cons, List.not_mem_nil, or_false] at hi
              rcases hi with rfl | rfl
              · refine wpOp_callD rfl rfl (some 109) rfl 36 #[.slice (some ⟨G2, 0, none⟩) 64 64] (by go_simp) ((HS2.out wq27 (ag2.below bq27).rd (hTb.below bq27)).mono ?_)
                rintro e wq28 ⟨rfl, bn⟩
                have bq28 := bq27.trans (bn.mono bq27.size)
                refine ⟨_, rfl, bq28, ?_⟩
                simp only [List.set_cons_succ, List.set_cons_zero, Act.put, List.setIfInBounds_toArray]
                have cq := cq.below bn
                refine wpAnyH_all (rs := [10]) (by kernel_rfl) (by simp) ?_
                intro i hi
                obtain rfl := List.mem_singleton.1 hi
                refine wpOp_runW rfl rfl (some 22) rfl (exec_allocH _ rfl) ⟨bq28.alloc bq28.size _, ?_⟩
                have cg : Av (wq28.alloc (.cells (zs32.map bv).toArray 28)) wq28.heap.size 28 (zs32.map bv) := Av.new _ _ _
                have bq29 := bq28.alloc bq28.size (.cells (zs32.map bv).toArray 28)
                have cqlt := cq.lt
                have cq := cq.alloc (.cells (zs32.map bv).toArray 28)
                obtain ⟨g, hg⟩ : ∃ g, g = wq28.heap.size := ⟨_, rfl⟩
                rw [← hg] at cg ⊢
                have hgw : wb.heap.size ≤ g := by rw [hg]; exact bq28.size
                have ng : g ≠ q := by omega
                generalize wq28.alloc (.cells (zs32.map bv).toArray 28) = wq29 at *
                simp only [List.set_cons_succ, List.set_cons_zero, Act.put, List.setIfInBounds_toArray]
                refine wpAnyH_all (rs := [12]) (by kernel_rfl) (by simp) ?_
                intro i hi
                obtain rfl := List.mem_singleton.1 hi
                refine wpOp_storeAv cg (C := y1.map bv) (by rw [s132.out]; rfl) rfl rfl _ _ _ rfl rfl rfl rfl 32 s132.out (by kernel_rfl) s1one.out ?_
                intro wy c16 f6
                have c26 := f6.av cq (Ne.symm ng)
                have by6 := bq29.trans (f6.below (fun j e => by omega) bq29.size)
                refine ⟨by6, ?_⟩
                refine wpAnyH_all (rs := [13]) (by kernel_rfl) (by simp) ?_
                intro i hi
                obtain rfl := List.mem_singleton.1 hi
                refine wpOp_storeAv c26 (C := y2.map bv) (by rw [s232.out]; rfl) rfl rfl _ _ _ rfl rfl rfl rfl 32 s232.out (by kernel_rfl) s2one.out ?_
                intro wz c27 f7
                have c17 := f7.av c16 ng
                have bz7 := by6.trans (f7.below (fun j e => by omega) by6.size)
                refine ⟨bz7, ?_⟩
                refine wpAnyH_done (by kernel_rfl) ?_ _
                try simp only [List.set_cons_succ, List.set_cons_zero, Act.put, List.setIfInBounds_toArray]
                refine hK1 _ _ ?_
                go_meet
                exact ⟨g, q, rfl, rfl, ng, hgw, hqw, c17, c27, bz7⟩
              · refine wpOp_runW rfl rfl (some 22) rfl (exec_allocH _ rfl) ⟨bq27.alloc bq27.size _, ?_⟩
                have cg : Av (wq27.alloc (.cells (zs32.map bv).toArray 28)) wq27.heap.size 28 (zs32.map bv) := Av.new _ _ _
                have bq30 := bq27.alloc bq27.size (.cells (zs32.map bv).toArray 28)
                have cqlt := cq.lt
                have cq := cq.alloc (.cells (zs32.map bv).toArray 28)
                obtain ⟨g, hg⟩ : ∃ g, g = wq27.heap.size := ⟨_, rfl⟩
                rw [← hg] at cg ⊢
                have hgw : wb.heap.size ≤ g := by rw [hg]; exact bq27.size
                have ng : g ≠ q := by omega
                generalize wq27.alloc (.cells (zs32.map bv).toArray 28) = wq30 at *
                simp only [List.set_cons_succ, List.set_cons_zero, Act.put, List.setIfInBounds_toArray]
                refine wpAnyH_all (rs := [9]) (by kernel_rfl) (by simp) ?_
                intro i hi
                obtain rfl := List.mem_singleton.1 hi
                refine wpOp_callD rfl rfl (some 109) rfl 36 #[.slice (some ⟨G2, 0, none⟩) 64 64] (by go_simp) ((HS2.out wq30 (ag2.below bq30).rd (hTb.below bq30)).mono ?_)
                rintro e wq31 ⟨rfl, bn⟩
                have bq31 := bq30.trans (bn.mono bq30.size)
                refine ⟨_, rfl, bq31, ?_⟩
                simp only [List.set_cons_succ, List.set_cons_zero, Act.put, List.setIfInBounds_toArray]
                have cg := cg.below bn
                have cq := cq.below bn
                refine wpAnyH_all (rs := [12]) (by kernel_rfl) (by simp) ?_
                intro i hi
                obtain rfl := List.mem_singleton.1 hi
                refine wpOp_storeAv cg (C := y1.map bv) (by rw [s132.out]; rfl) rfl rfl _ _ _ rfl rfl rfl rfl 32 s132.out (by kernel_rfl) s1one.out ?_
                intro wy c16 f6
                have c26 := f6.av cq (Ne.symm ng)
                have by6 := bq31.trans (f6.below (fun j e => by omega) bq31.size)
                refine ⟨by6, ?_⟩
                refine wpAnyH_all (rs := [13]) (by kernel_rfl) (by simp) ?_
                intro i hi
                obtain rfl := List.mem_singleton.1 hi
                refine wpOp_storeAv c26 (C := y2.map bv) (by rw [s232.out]; rfl) rfl rfl _ _ _ rfl rfl rfl rfl 32 s232.out (by kernel_rfl) s2one.out ?_
                intro wz c27 f7
                have c17 := f7.av c16 ng
                have bz7 := by6.trans (f7.below (fun j e => by omega) by6.size)
                refine ⟨bz7, ?_⟩
                refine wpAnyH_done (by kernel_rfl) ?_ _
                try simp only [List.set_cons_succ, List.set_cons_zero, Act.put, List.setIfInBounds_toArray]
                refine hK1 _ _ ?_
                go_meet
                exact ⟨g, q, rfl, rfl, ng, hgw, hqw, c17, c27, bz7⟩
            · refine wpOp_runW rfl rfl (some 22) rfl (exec_allocH _ rfl) ⟨bq26.alloc bq26.size _, ?_⟩
              have cg : Av (wq26.alloc (.cells (zs32.map bv).toArray 28)) wq26.heap.size 28 (zs32.map bv) := Av.new _ _ _
              have bq32 := bq26.alloc bq26.size (.cells (zs32.map bv).toArray 28)
              have cqlt := cq.lt
              have cq := cq.alloc (.cells (zs32.map bv).toArray 28)
              obtain ⟨g, hg⟩ : ∃ g, g = wq26.heap.size := ⟨_, rfl⟩
              rw [← hg] at cg ⊢
              have hgw : wb.heap.size ≤ g := by rw [hg]; exact bq26.size
              have ng : g ≠ q := by omega
              generalize wq26.alloc (.cells (zs32.map bv).toArray 28) = wq32 at *
              simp only [List.set_cons_succ, List.set_cons_zero, Act.put, List.setIfInBounds_toArray]
              refine wpAnyH_all (rs := [4]) (by kernel_rfl) (by simp) ?_
              intro i hi
              obtain rfl := List.mem_singleton.1 hi
              refine wpOp_callD rfl rfl (some 104) rfl 36 #[.slice (some ⟨G1, 0, none⟩) 64 64] (by go_simp) ((HS1.out wq32 (ag1.below bq32).rd (hTb.below bq32)).mono ?_)
              rintro e wq33 ⟨rfl, bn⟩
              have bq33 := bq32.trans (bn.mono bq32.size)
              refine ⟨_, rfl, bq33, ?_⟩
              simp only [List.set_cons_succ, List.set_cons_zero, Act.put, List.setIfInBounds_toArray]
              have cg := cg.below bn
              have cq := cq.below bn
              refine wpAnyH_all (rs := [9]) (by kernel_rfl) (by simp) ?_
              intro i hi
              obtain rfl := List.mem_singleton.1 hi
              refine wpOp_callD rfl rfl (some 109) rfl 36 #[.slice (some ⟨G2, 0, none⟩) 64 64] (by go_simp) ((HS2.out wq33 (ag2.below bq33).rd (hTb.below bq33)).mono ?_)
              rintro e wq34 ⟨rfl, bn⟩
              have bq34 := bq33.trans (bn.mono bq33.size)
              refine ⟨_, rfl, bq34, ?_⟩
              simp only [List.set_cons_succ, List.set_cons_zero, Act.put, List.setIfInBounds_toArray]
              have cg := cg.below bn
              have cq := cq.below bn
              refine wpAnyH_all (rs := [12]) (by kernel_rfl) (by simp) ?_
              intro i hi
              obtain rfl := List.mem_singleton.1 hi
              refine wpOp_storeAv cg (C := y1.map bv) (by rw [s132.out]; rfl) rfl rfl _ _ _ rfl rfl rfl rfl 32 s132.out (by kernel_rfl) s1one.out ?_
              intro wy c16 f6
              have c26 := f6.av cq (Ne.symm ng)
              have by6 := bq34.trans (f6.below (fun j e => by omega) bq34.size)
              refine ⟨by6, ?_⟩
              refine wpAnyH_all (rs := [13]) (by kernel_rfl) (by simp) ?_
              intro i hi
              obtain rfl := List.mem_singleton.1 hi
              refine wpOp_storeAv c26 (C := y2.map bv) (by rw [s232.out]; rfl) rfl rfl _ _ _ rfl rfl rfl rfl 32 s232.out (by kernel_rfl) s2one.out ?_
              intro wz c27 f7
              have c17 := f7.av c16 ng
              have bz7 := by6.trans (f7.below (fun j e => by omega) by6.size)
              refine ⟨bz7, ?_⟩
              refine wpAnyH_done (by kernel_rfl) ?_ _
              try simp only [List.set_cons_succ, List.set_cons_zero, Act.put, List.setIfInBounds_toArray]
              refine hK1 _ _ ?_
              go_meet
              exact ⟨g, q, rfl, rfl, ng, hgw, hqw, c17, c27, bz7⟩
        case rest =>
          obtain ⟨g, q, rfl, rfl, ng, hgw, hqw, agc, aqc, bc⟩ := hcut
          have bwc := bwr2.trans (bc.mono bwr2.size)
          obtain ⟨F, hF⟩ : ∃ F, F = (y1 == y2) := ⟨_, rfl⟩
          replace E5 := E5.out
          rw [← hF] at E5
          replace hF := Lib.hid hF
          replace E5 := Lib.hid E5
          cases F with
          | true =>
            go_upto_region 13 with fail
            go_step
            refine wpList_loadF 28 agc ?_ _ 32 s132.out Tryd.underlying28 ?_ ?_ ?_
            · rfl
            · rfl
            · kernel_rfl
            refine wpList_loadF 28 aqc ?_ _ 32 s232.out Tryd.underlying28 ?_ ?_ ?_
            · rfl
            · rfl
            · kernel_rfl
            refine wpList_binG (op := .eql) (ty := 28) ?_ ?_ ?_ (E5.out _ _ wc) ?_
            · rfl
            · rfl
            · rfl
            dsimp only [Act.put]
            simp only [List.setIfInBounds_toArray, List.set_cons_succ, List.set_cons_zero]
            go_upto_region 14 with fail
            have ra1c := ra1.below bc
            have ra2c := ra2.below bc
            refine wp_region_rel [] Ext (by kernel_rfl) (by kernel_rfl) (by kernel_rfl) Ext.refl Ext.trans (by intro p hp; cases hp) ?_
            refine relMove Ext.refl rfl rfl rfl rfl _ (.inl rfl) (by conv => lhs; whnf) (by simp only [List.set_cons_succ, List.set_cons_zero]; rfl) ?_
            refine relMove Ext.refl rfl rfl rfl rfl _ (.inl rfl) (by conv => lhs; whnf) (by simp only [List.set_cons_succ, List.set_cons_zero]; rfl) ?_
            refine relPure Ext.refl rfl rfl rfl rfl (c := .pointer (some ⟨b1, o1 + j, none⟩)) (fun w _ => by go_simp; first | done | rfl) (by simp only [List.set_cons_succ, List.set_cons_zero]; rfl) ?_
            refine relPure Ext.refl rfl rfl rfl rfl (c := .slice (some ⟨G1, 0, none⟩) 64 64) (fun w hw => by have := hc1.out _ (ra1c.below hw.drew); go_simp; first | done | rfl) (by simp only [List.set_cons_succ, List.set_cons_zero]; rfl) ?_
            refine relMove Ext.refl rfl rfl rfl rfl _ (.inl rfl) (by conv => lhs; whnf) (by simp only [List.set_cons_succ, List.set_cons_zero]; rfl) ?_
            refine relMove Ext.refl rfl rfl rfl rfl _ (.inl rfl) (by conv => lhs; whnf) (by simp only [List.set_cons_succ, List.set_cons_zero]; rfl) ?_
            refine relPure Ext.refl rfl rfl rfl rfl (c := .pointer (some ⟨b2, o2 + j, none⟩)) (fun w _ => by go_simp; first | done | rfl) (by simp only [List.set_cons_succ, List.set_cons_zero]; rfl) ?_
            refine relPure Ext.refl rfl rfl rfl rfl (c := .slice (some ⟨G2, 0, none⟩) 64 64) (fun w hw => by have := hc2.out _ (ra2c.below hw.drew); go_simp; first | done | rfl) (by simp only [List.set_cons_succ, List.set_cons_zero]; rfl) ?_
            refine relMove Ext.refl rfl rfl rfl rfl _ (.inr rfl) (by conv => lhs; whnf) (by simp only [List.set_cons_succ, List.set_cons_zero]; rfl) ?_
            refine relMove Ext.refl rfl rfl rfl rfl _ (.inr rfl) (by conv => lhs; whnf) (by simp only [List.set_cons_succ, List.set_cons_zero]; rfl) ?_
            refine relMove Ext.refl rfl rfl rfl rfl _ (.inr rfl) (by conv => lhs; whnf) (by simp only [List.set_cons_succ, List.set_cons_zero]; rfl) ?_
            refine relEnd fun wd hwd => fill_end ?_
            have bd := bc.trans (hwd.drew.mono bc.size)
            have bwd := bwc.trans (hwd.drew.mono bwc.size)
            have rd1 := (ag1.below bd).rd
            have rd2 := (ag2.below bd).rd
            have hwit : qWit (k1, l1) = (k1, l1) := hwt.out.trans (if_pos (beq_iff_eq.1 hF.out.symm))
            replace hwit := Lib.hid hwit
            go_wp2
            go_ret3
            rw [ha.out]
            refine ⟨bwd, _, _, _, _, _, _, rfl, ?_⟩
            rw [hwit.out]
            exact ⟨k64.out, Nat.le_refl _, l64.out, Nat.le_refl _, by omega, by omega, rd1, rd2⟩
          | false =>
            go_upto_region 13 with fail
            go_step
            refine wpList_loadF 28 agc ?_ _ 32 s132.out Tryd.underlying28 ?_ ?_ ?_
            · rfl
            · rfl
            · kernel_rfl
            refine wpList_loadF 28 aqc ?_ _ 32 s232.out Tryd.underlying28 ?_ ?_ ?_
            · rfl
            · rfl
            · kernel_rfl
            refine wpList_binG (op := .eql) (ty := 28) ?_ ?_ ?_ (E5.out _ _ wc) ?_
            · rfl
            · rfl
            · rfl
            dsimp only [Act.put]
            simp only [List.setIfInBounds_toArray, List.set_cons_succ, List.set_cons_zero]
            go_upto_region 15 with fail
            refine wp_region_rel [] Ext (by kernel_rfl) (by kernel_rfl) (by kernel_rfl) Ext.refl Ext.trans (by intro p hp; cases hp) ?_
            refine relPure Ext.refl rfl rfl rfl rfl (c := .slice (some ⟨g, 0, none⟩) 32 32) (fun w _ => by go_simp; first | done | rfl) (by simp only [List.set_cons_succ, List.set_cons_zero]; rfl) ?_
            refine relPure Ext.refl rfl rfl rfl rfl (c := .slice (some ⟨q, 0, none⟩) 32 32) (fun w _ => by go_simp; first | done | rfl) (by simp only [List.set_cons_succ, List.set_cons_zero]; rfl) ?_
            refine relMove Ext.refl rfl rfl rfl rfl _ (.inr rfl) (by conv => lhs; whnf) (by simp only [List.set_cons_succ, List.set_cons_zero]; rfl) ?_
            refine relMove Ext.refl rfl rfl rfl rfl _ (.inr rfl) (by conv => lhs; whnf) (by simp only [List.set_cons_succ, List.set_cons_zero]; rfl) ?_
            refine relMove Ext.refl rfl rfl rfl rfl _ (.inr rfl) (by conv => lhs; whnf) (by simp only [List.set_cons_succ, List.set_cons_zero]; rfl) ?_
            refine relEnd fun wd hwd => fill_end ?_
            have bwd := bwc.trans (hwd.drew.mono bwc.size)
            have rd1 := (agc.below hwd.drew).rd
            have rd2 := (aqc.below hwd.drew).rd
            have hwit : qWit (k1, l1) = (y1, y2) := hwt.out.trans (if_neg (beq_eq_false_iff_ne.1 hF.out.symm))
            replace hwit := Lib.hid hwit
            go_wp2
            go_ret3
            rw [ha.out]
            refine ⟨bwd, _, _, _, _, _, _, rfl, ?_⟩
            rw [hwit.out]
            exact ⟨s1l.out, Nat.le_refl _, s2l.out, Nat.le_refl _, by omega, by omega, rd1, rd2⟩
    · obtain rfl : j = N := by omega
      have u1 : decide ((j : Int) < (j : Int)) = false := by simp
      have ha : ans = none := by
        rw [← hd.out, List.drop_of_length_le (by rw [Kl.out]; exact Nat.le_refl _)]
        rfl
      replace ha := Lib.hid ha
      clear hd
      have bwr2 := bw9.trans (bwr.mono bw9.size)
      go_wp2
      go_ret3
      rw [ha.out]
      exact ⟨bwr2, rfl⟩
theorem PClash (fl1 : List UInt8) (hs1 : List (List UInt8)) (g32 : All32 hs1) (tot1 : Nat) (Ah1 : Option Addr) (nh1 ch1 : Nat) (Af1 : Option Addr) (nf1 cf1 : Nat) (hnh1 : hs1.length = nh1) (hnf1 : fl1.length = nf1) (ht1 : tot1 < 4294967296) (hnf12 : nf1 ≤ 10000) (hnh12 : nh1 ≤ 10000)
    (fl2 : List UInt8) (hs2 : List (List UInt8)) (k32 : All32 hs2) (tot2 : Nat) (Ah2 : Option Addr) (nh2 ch2 : Nat) (Af2 : Option Addr) (nf2 cf2 : Nat) (hnh2 : hs2.length = nh2) (hnf2 : fl2.length = nf2) (ht2 : tot2 < 4294967296) (hnf22 : nf2 ≤ 10000) (hnh22 : nh2 ≤ 10000)
    (pos : Int) (w : World) (hrh1 : Rd w Ah1 (hcl hs1)) (hrf1 : Rd w Af1 (fl1.map bv)) (hrh2 : Rd w Ah2 (hcl hs2)) (hrf2 : Rd w Af2 (fl2.map bv)) (hT : Tabs w) :
    Calls Tryd.prog 14 #[.agg (trc tot1 Ah1 nh1 ch1 Af1 nf1 cf1).toArray, .agg (trc tot2 Ah2 nh2 ch2 Af2 nf2 cf2).toArray, .int .i64 pos] w (ClashPost w (qClash tot1 hs1 fl1 tot2 hs2 fl2 pos)) := by
  obtain ⟨e1, e2⟩ := fndH_32 (tot := tot1) (fl := fl1) (pos := pos) g32
  obtain ⟨e3, e4⟩ := fndH_32 (tot := tot2) (fl := fl2) (pos := pos) k32
  have NO := PClash_no fl1 hs1 g32 tot1 Ah1 nh1 ch1 Af1 nf1 cf1 hnh1 hnf1 ht1 hnf12 hnh12 fl2 hs2 k32 tot2 Ah2 nh2 ch2 Af2 nf2 cf2 hnh2 hnf2 ht2 hnf22 hnh22 pos w _ _ _ _ (fndH (qFnd tot1 hs1 fl1 pos)).2.2 (fndH (qFnd tot2 hs2 fl2 pos)).2.2 e1 e2 e3 e4
    (fun w' b => PFoundH fl1 hs1 g32 tot1 Ah1 nh1 ch1 Af1 nf1 cf1 hnh1 hnf1 ht1 hnf12 hnh12 pos w' (hrh1.below b) (hrf1.below b) (hT.below b) _ rfl)
    (fun w' b => PFoundH fl2 hs2 k32 tot2 Ah2 nh2 ch2 Af2 nf2 cf2 hnh2 hnf2 ht2 hnf22 hnh22 pos w' (hrh2.below b) (hrf2.below b) (hT.below b) _ rfl)
  unfold qClash
  cases hq1 : qFnd tot1 hs1 fl1 pos with
  | none =>
    rw [hq1] at NO
    exact NO (.inl rfl)
  | some a =>
    cases hq2 : qFnd tot2 hs2 fl2 pos with
    | none =>
      rw [hq1, hq2] at NO
      exact NO (.inr (.inl ⟨rfl, rfl⟩))
    | some b =>
      rw [hq1, hq2] at NO
      rw [Option.bind_some, Option.bind_some]
      by_cases h1 : a.1 = b.1
      · by_cases h2 : tot1 = tot2
        · by_cases h3 : a.2 = b.2
          · rw [if_neg (fun h => h.2.2 h3)]
            exact NO (.inr (.inr (.inr (.inr ⟨rfl, rfl, beq_iff_eq.2 h1, h2, beq_iff_eq.2 h3⟩))))
          · rw [if_pos ⟨h1, h2, h3⟩]
            exact PClash_go fl1 hs1 g32 tot1 Ah1 nh1 ch1 Af1 nf1 cf1 hnh1 hnf1 ht1 hnf12 hnh12 fl2 hs2 k32 tot2 Ah2 nh2 ch2 Af2 nf2 cf2 hnh2 hnf2 ht2 hnf22 hnh22 h2 pos w hrh1 hrf1 hrh2 hrf2 hT a.1 a.2 b.1 b.2 hq1 hq2 (beq_iff_eq.2 h1) (beq_eq_false_iff_ne.2 h3)
        · rw [if_neg (fun h => h2 h.2.1)]
          exact NO (.inr (.inr (.inr (.inl ⟨rfl, rfl, beq_iff_eq.2 h1, h2⟩))))
      · rw [if_neg (fun h => h1 h.1)]
        exact NO (.inr (.inr (.inl ⟨rfl, rfl, beq_eq_false_iff_ne.2 h1⟩)))
end Go.Proofs.YtdkknincamkhpaaDoor
