/- The law ProofIs: the walk. -/
import Derived.Test.YtdkknincamkhpaaDoorU7
import Derived.Test.YtdkknincamkhpaaDoorPr21
import Derived.Test.YtdkknincamkhpaaDoorSam
namespace Go.Proofs.YtdkknincamkhpaaDoor
open Go.RowKit
attribute [local go_sem high] slB_lh slB_l slB_h
set_option maxRecDepth 100000 in
set_option maxHeartbeats 4000000 in
theorem fis_0 (tot1 : Nat) (Ah1 : Option Addr) (nh1 ch1 : Nat) (Af1 : Option Addr) (nf1 cf1 : Nat) (tot2 : Nat) (Ah2 : Option Addr) (nh2 ch2 : Nat) (Af2 : Option Addr) (nf2 cf2 : Nat) (pos : Int) (rt h : List UInt8) (A : Option Addr) (n c : Nat) (h1 : ¬ (nh1 ≤ 60 ∧ nf1 ≤ 60)) (w : World) (hT : Tabs w) : Calls Tryd.prog 3 #[.agg (trc tot1 Ah1 nh1 ch1 Af1 nf1 cf1).toArray, .agg (trc tot2 Ah2 nh2 ch2 Af2 nf2 cf2).toArray, .int .i64 pos, .agg (hcs rt), .agg (hcs h), .slice A n c] w fun e w' => e = .returned (.bool true) ∧ Below w.heap.size w w' := by
  have HW1 := Lib.hid (fun w => PFew false tot1 Ah1 nh1 ch1 Af1 nf1 cf1 (by simp; omega) w)
  obtain ⟨X, hX⟩ : ∃ X, X = w.heap.size := ⟨_, rfl⟩
  obtain ⟨W, hW⟩ : ∃ W, W = (((w.alloc (.cells (trc tot1 Ah1 nh1 ch1 Af1 nf1 cf1).toArray 26)).alloc (.cells (trc tot2 Ah2 nh2 ch2 Af2 nf2 cf2).toArray 26)).alloc (.cells (rt.map bv).toArray 28)).alloc (.cells (h.map bv).toArray 28) := ⟨_, rfl⟩
  have bW : Below w.heap.size w W := by rw [hW]; exact ((((Below.refl _ _).alloc (Nat.le_refl _) _).alloc (by simp) _).alloc (by simp; omega) _).alloc (by simp; omega) _
  have aX0 : Av W X 26 (trc tot1 Ah1 nh1 ch1 Af1 nf1 cf1) := by rw [hW, hX]; exact (((Av.new w _ _).alloc _).alloc _).alloc _
  have aX1 : Av W (X + 1) 26 (trc tot2 Ah2 nh2 ch2 Af2 nf2 cf2) := by rw [hW, hX, ← World.size_alloc w (.cells (trc tot1 Ah1 nh1 ch1 Af1 nf1 cf1).toArray 26)]; exact ((Av.new _ _ _).alloc _).alloc _
  have aX2 : Av W (X + 2) 28 (rt.map bv) := by rw [hW, hX, show w.heap.size + 2 = ((w.alloc (.cells (trc tot1 Ah1 nh1 ch1 Af1 nf1 cf1).toArray 26)).alloc (.cells (trc tot2 Ah2 nh2 ch2 Af2 nf2 cf2).toArray 26)).heap.size by simp]; exact (Av.new _ _ _).alloc _
  have aX3 : Av W (X + 3) 28 (h.map bv) := by rw [hW, hX, show w.heap.size + 3 = (((w.alloc (.cells (trc tot1 Ah1 nh1 ch1 Af1 nf1 cf1).toArray 26)).alloc (.cells (trc tot2 Ah2 nh2 ch2 Af2 nf2 cf2).toArray 26)).alloc (.cells (rt.map bv).toArray 28)).heap.size by simp]; exact Av.new _ _ _
  have HA := Lib.hid (awake12 W (hT.below bW))
  replace hW := Lib.hid hW
  replace hX := Lib.hid hX
  go_enter Tryd.func3, Tryd.ntmps3
  go_upto_region 1 with fail
  rw [← hX.out]
  rw [← hW.out]
  go_wp2_with (first
    | (go_at_call 9; refine (HA.out).mono ?_; rintro e w1 ⟨rfl, b1⟩; have a10 := aX0.below b1; have a11 := aX1.below b1)
    | ((with_reducible refine wpList_loadF 26 a10 ?_ _ 3 ?_ Tryd.underlying26 ?_ ?_ ?_); rfl; rfl; rfl; kernel_rfl)
    | (go_at_call 10; refine (HW1.out w1).mono ?_; rintro e w2 ⟨rfl, b2⟩; have a21 := a11.below b2))
  go_ret
  exact ⟨rfl, bW.trans ((b1.trans (b2.mono b1.size)).mono bW.size)⟩
set_option maxRecDepth 100000 in
set_option maxHeartbeats 4000000 in
theorem fis_1 (tot1 : Nat) (Ah1 : Option Addr) (nh1 ch1 : Nat) (Af1 : Option Addr) (nf1 cf1 : Nat) (tot2 : Nat) (Ah2 : Option Addr) (nh2 ch2 : Nat) (Af2 : Option Addr) (nf2 cf2 : Nat) (pos : Int) (rt h : List UInt8) (A : Option Addr) (n c : Nat) (h1 : nh1 ≤ 60 ∧ nf1 ≤ 60) (h2 : ¬ (nh2 ≤ 60 ∧ nf2 ≤ 60)) (w : World) (hT : Tabs w) : Calls Tryd.prog 3 #[.agg (trc tot1 Ah1 nh1 ch1 Af1 nf1 cf1).toArray, .agg (trc tot2 Ah2 nh2 ch2 Af2 nf2 cf2).toArray, .int .i64 pos, .agg (hcs rt), .agg (hcs h), .slice A n c] w fun e w' => e = .returned (.bool true) ∧ Below w.heap.size w w' := by
  have HW1 := Lib.hid (fun w => PFew true tot1 Ah1 nh1 ch1 Af1 nf1 cf1 (by simp; omega) w)
  have HW2 := Lib.hid (fun w => PFew false tot2 Ah2 nh2 ch2 Af2 nf2 cf2 (by simp; omega) w)
  obtain ⟨X, hX⟩ : ∃ X, X = w.heap.size := ⟨_, rfl⟩
  obtain ⟨W, hW⟩ : ∃ W, W = (((w.alloc (.cells (trc tot1 Ah1 nh1 ch1 Af1 nf1 cf1).toArray 26)).alloc (.cells (trc tot2 Ah2 nh2 ch2 Af2 nf2 cf2).toArray 26)).alloc (.cells (rt.map bv).toArray 28)).alloc (.cells (h.map bv).toArray 28) := ⟨_, rfl⟩
  have bW : Below w.heap.size w W := by rw [hW]; exact ((((Below.refl _ _).alloc (Nat.le_refl _) _).alloc (by simp) _).alloc (by simp; omega) _).alloc (by simp; omega) _
  have aX0 : Av W X 26 (trc tot1 Ah1 nh1 ch1 Af1 nf1 cf1) := by rw [hW, hX]; exact (((Av.new w _ _).alloc _).alloc _).alloc _
  have aX1 : Av W (X + 1) 26 (trc tot2 Ah2 nh2 ch2 Af2 nf2 cf2) := by rw [hW, hX, ← World.size_alloc w (.cells (trc tot1 Ah1 nh1 ch1 Af1 nf1 cf1).toArray 26)]; exact ((Av.new _ _ _).alloc _).alloc _
  have aX2 : Av W (X + 2) 28 (rt.map bv) := by rw [hW, hX, show w.heap.size + 2 = ((w.alloc (.cells (trc tot1 Ah1 nh1 ch1 Af1 nf1 cf1).toArray 26)).alloc (.cells (trc tot2 Ah2 nh2 ch2 Af2 nf2 cf2).toArray 26)).heap.size by simp]; exact (Av.new _ _ _).alloc _
  have aX3 : Av W (X + 3) 28 (h.map bv) := by rw [hW, hX, show w.heap.size + 3 = (((w.alloc (.cells (trc tot1 Ah1 nh1 ch1 Af1 nf1 cf1).toArray 26)).alloc (.cells (trc tot2 Ah2 nh2 ch2 Af2 nf2 cf2).toArray 26)).alloc (.cells (rt.map bv).toArray 28)).heap.size by simp]; exact Av.new _ _ _
  have HA := Lib.hid (awake12 W (hT.below bW))
  replace hW := Lib.hid hW
  replace hX := Lib.hid hX
  go_enter Tryd.func3, Tryd.ntmps3
  go_upto_region 1 with fail
  rw [← hX.out]
  rw [← hW.out]
  go_wp2_with (first
    | (go_at_call 9; refine (HA.out).mono ?_; rintro e w1 ⟨rfl, b1⟩; have a10 := aX0.below b1; have a11 := aX1.below b1)
    | ((with_reducible refine wpList_loadF 26 a10 ?_ _ 3 ?_ Tryd.underlying26 ?_ ?_ ?_); rfl; rfl; rfl; kernel_rfl)
    | (go_at_call 10; (first
        | ((with_reducible refine (HW1.out w1).mono ?_); rintro e w2 ⟨rfl, b2⟩; have a21 := a11.below b2)
        | ((with_reducible refine (HW2.out w2).mono ?_); rintro e w3 ⟨rfl, b3⟩)))
    | ((with_reducible refine wpList_loadG 26 a21 ?_ ?_ _ 3 rfl Tryd.underlying26 ?_ ?_ ?_); rfl; rfl; rfl; kernel_rfl))
  go_ret
  exact ⟨rfl, bW.trans ((b1.trans ((b2.trans (b3.mono b2.size)).mono b1.size)).mono bW.size)⟩
set_option maxRecDepth 100000 in
set_option maxHeartbeats 4000000 in
theorem fis_2 (tot1 : Nat) (Ah1 : Option Addr) (nh1 ch1 : Nat) (Af1 : Option Addr) (nf1 cf1 : Nat) (tot2 : Nat) (Ah2 : Option Addr) (nh2 ch2 : Nat) (Af2 : Option Addr) (nf2 cf2 : Nat) (pos : Int) (rt h : List UInt8) (A : Option Addr) (n c : Nat) (h1 : nh1 ≤ 60 ∧ nf1 ≤ 60) (h2 : nh2 ≤ 60 ∧ nf2 ≤ 60) (h3 : 30 < n) (w : World) (hT : Tabs w) : Calls Tryd.prog 3 #[.agg (trc tot1 Ah1 nh1 ch1 Af1 nf1 cf1).toArray, .agg (trc tot2 Ah2 nh2 ch2 Af2 nf2 cf2).toArray, .int .i64 pos, .agg (hcs rt), .agg (hcs h), .slice A n c] w fun e w' => e = .returned (.bool true) ∧ Below w.heap.size w w' := by
  have u1 : decide ((30 : Int) < (n : Int)) = true := by simp; omega
  have v1 : decide (30 < n) = true := by simp; omega
  have HW1 := Lib.hid (fun w => PFew true tot1 Ah1 nh1 ch1 Af1 nf1 cf1 (by simp; omega) w)
  have HW2 := Lib.hid (fun w => PFew true tot2 Ah2 nh2 ch2 Af2 nf2 cf2 (by simp; omega) w)
  obtain ⟨X, hX⟩ : ∃ X, X = w.heap.size := ⟨_, rfl⟩
  obtain ⟨W, hW⟩ : ∃ W, W = (((w.alloc (.cells (trc tot1 Ah1 nh1 ch1 Af1 nf1 cf1).toArray 26)).alloc (.cells (trc tot2 Ah2 nh2 ch2 Af2 nf2 cf2).toArray 26)).alloc (.cells (rt.map bv).toArray 28)).alloc (.cells (h.map bv).toArray 28) := ⟨_, rfl⟩
  have bW : Below w.heap.size w W := by rw [hW]; exact ((((Below.refl _ _).alloc (Nat.le_refl _) _).alloc (by simp) _).alloc (by simp; omega) _).alloc (by simp; omega) _
  have aX0 : Av W X 26 (trc tot1 Ah1 nh1 ch1 Af1 nf1 cf1) := by rw [hW, hX]; exact (((Av.new w _ _).alloc _).alloc _).alloc _
  have aX1 : Av W (X + 1) 26 (trc tot2 Ah2 nh2 ch2 Af2 nf2 cf2) := by rw [hW, hX, ← World.size_alloc w (.cells (trc tot1 Ah1 nh1 ch1 Af1 nf1 cf1).toArray 26)]; exact ((Av.new _ _ _).alloc _).alloc _
  have aX2 : Av W (X + 2) 28 (rt.map bv) := by rw [hW, hX, show w.heap.size + 2 = ((w.alloc (.cells (trc tot1 Ah1 nh1 ch1 Af1 nf1 cf1).toArray 26)).alloc (.cells (trc tot2 Ah2 nh2 ch2 Af2 nf2 cf2).toArray 26)).heap.size by simp]; exact (Av.new _ _ _).alloc _
  have aX3 : Av W (X + 3) 28 (h.map bv) := by rw [hW, hX, show w.heap.size + 3 = (((w.alloc (.cells (trc tot1 Ah1 nh1 ch1 Af1 nf1 cf1).toArray 26)).alloc (.cells (trc tot2 Ah2 nh2 ch2 Af2 nf2 cf2).toArray 26)).alloc (.cells (rt.map bv).toArray 28)).heap.size by simp]; exact Av.new _ _ _
  have HA := Lib.hid (awake12 W (hT.below bW))
  replace hW := Lib.hid hW
  replace hX := Lib.hid hX
  go_enter Tryd.func3, Tryd.ntmps3
  go_upto_region 1 with fail
  rw [← hX.out]
  rw [← hW.out]
  go_wp2_with (first
    | (go_at_call 9; refine (HA.out).mono ?_; rintro e w1 ⟨rfl, b1⟩; have a10 := aX0.below b1; have a11 := aX1.below b1)
    | ((with_reducible refine wpList_loadF 26 a10 ?_ _ 3 ?_ Tryd.underlying26 ?_ ?_ ?_); rfl; rfl; rfl; kernel_rfl)
    | (go_at_call 10; (first
        | ((with_reducible refine (HW1.out w1).mono ?_); rintro e w2 ⟨rfl, b2⟩; have a21 := a11.below b2)
        | ((with_reducible refine (HW2.out w2).mono ?_); rintro e w3 ⟨rfl, b3⟩)))
    | ((with_reducible refine wpList_loadG 26 a21 ?_ ?_ _ 3 rfl Tryd.underlying26 ?_ ?_ ?_); rfl; rfl; rfl; kernel_rfl))
  go_ret
  exact ⟨rfl, bW.trans ((b1.trans ((b2.trans (b3.mono b2.size)).mono b1.size)).mono bW.size)⟩
theorem path_form (ans : Option (List (List UInt8))) (hb : ∀ l, ans = some l → All32 l ∧ l.length ≤ 100000) :
    ∃ (l : List (List UInt8)) (b : Bool), All32 l ∧ l.length ≤ 100000 ∧ ∀ w0 e w', PathPost w0 ans e w' → Below w0.heap.size w0 w' ∧ ∃ A c, e = .returned (.tuple #[.slice A l.length c, .bool b]) ∧ Rd w' A (hcl l) := by
  cases ans with
  | none => exact ⟨[], false, (fun x hx => by cases hx), by simp, fun w0 e w' h => ⟨h.1, none, 0, h.2, Rd.nil _ _⟩⟩
  | some l =>
    obtain ⟨h1, h2⟩ := hb l rfl
    refine ⟨l, true, h1, h2, fun w0 e w' h => ?_⟩
    obtain ⟨b, A, c, e1, _, _, r⟩ := h
    exact ⟨b, A, c, e1, r⟩
theorem clash_form (ans : Option (List UInt8 × List UInt8)) :
    ∃ (s1 s2 : List UInt8) (b : Bool), (∀ w0 e w', ClashPost w0 ans e w' → Below w0.heap.size w0 w' ∧ ∃ A c B d, e = .returned (.tuple #[.slice A s1.length c, .slice B s2.length d, .bool b]) ∧ Rd w' A (s1.map bv) ∧ Rd w' B (s2.map bv)) ∧
      (∀ w0 e w', ClashPostR w0 ans e w' → Below w0.heap.size w0 w' ∧ ∃ A c B d, e = .returned (.tuple #[.slice A s1.length c, .slice B s2.length d, .bool b]) ∧ Rd w' A (s1.map bv) ∧ Rd w' B (s2.map bv)) := by
  cases ans with
  | none => exact ⟨[], [], false, fun w0 e w' h => ⟨h.1, none, 0, none, 0, h.2, Rd.nil _ _, Rd.nil _ _⟩, fun w0 e w' h => ⟨h.1, none, 0, none, 0, h.2, Rd.nil _ _, Rd.nil _ _⟩⟩
  | some s =>
    refine ⟨s.1, s.2, true, fun w0 e w' h => ?_, fun w0 e w' h => ?_⟩
    · obtain ⟨b, A, m, c, B, n, d, e1, l1, _, l2, _, _, _, r1, r2⟩ := h
      subst l1 l2
      exact ⟨b, A, c, B, d, e1, r1, r2⟩
    · obtain ⟨b, A, c, B, d, e1, r1, r2⟩ := h
      exact ⟨b, A, c, B, d, e1, r1, r2⟩
/-- two slices of bytes and a bool that were told -/
def ClW (s1 s2 : List UInt8) (b : Bool) : VP := fun v w => ∃ A c B d, v = .tuple #[.slice A s1.length c, .slice B s2.length d, .bool b] ∧ Rd w A (s1.map bv) ∧ Rd w B (s2.map bv)
theorem ClW.mono {s1 s2 : List UInt8} {b : Bool} {v : Value} {w w' : World} (h : Ext w w') : ClW s1 s2 b v w → ClW s1 s2 b v w' := by
  rintro ⟨A, c, B, d, e, r1, r2⟩
  exact ⟨A, c, B, d, e, r1.below h, r2.below h⟩
/-- texts that were told -/
def TxW (N : Nat) (ts : List (List UInt8)) : VP := fun v w => ∃ A c gs, v = .slice A N c ∧ Rd w A (tgc gs) ∧ TgAt w gs ts
theorem TxW.mono {N : Nat} {ts : List (List UInt8)} {v : Value} {w w' : World} (h : Ext w w') : TxW N ts v w → TxW N ts v w' := by
  rintro ⟨A, c, gs, e, r1, r2⟩
  exact ⟨A, c, gs, e, r1.below h, r2.below h⟩
set_option maxRecDepth 100000 in
set_option maxHeartbeats 16000000 in
theorem fis_3 (fl1 : List UInt8) (hs1 : List (List UInt8)) (g1 : All32 hs1) (tot1 : Nat) (Ah1 : Option Addr) (nh1 ch1 : Nat) (Af1 : Option Addr) (nf1 cf1 : Nat) (hnh1 : hs1.length = nh1) (hnf1 : fl1.length = nf1) (ht1 : tot1 < 4294967296) (fl2 : List UInt8) (hs2 : List (List UInt8)) (g2 : All32 hs2) (tot2 : Nat) (Ah2 : Option Addr) (nh2 ch2 : Nat) (Af2 : Option Addr) (nf2 cf2 : Nat) (hnh2 : hs2.length = nh2) (hnf2 : fl2.length = nf2) (ht2 : tot2 < 4294967296) (pos : Int) (hpz : pos ≤ 9223372036854775807) (rt : List UInt8) (rt32 : rt.length = 32) (h : List UInt8) (h32 : h.length = 32) (p : List (List UInt8)) (p32 : All32 p) (A : Option Addr) (n c : Nat) (hn : p.length = n)
    (q1 : nh1 ≤ 60 ∧ nf1 ≤ 60) (q2 : nh2 ≤ 60 ∧ nf2 ≤ 60) (q3 : ¬ 30 < n) (w : World) (hrh1 : Rd w Ah1 (hcl hs1)) (hrf1 : Rd w Af1 (fl1.map bv)) (hrh2 : Rd w Ah2 (hcl hs2)) (hrf2 : Rd w Af2 (fl2.map bv)) (hrp : Rd w A (hcl p)) (hT : Tabs w) : Calls Tryd.prog 3 #[.agg (trc tot1 Ah1 nh1 ch1 Af1 nf1 cf1).toArray, .agg (trc tot2 Ah2 nh2 ch2 Af2 nf2 cf2).toArray, .int .i64 pos, .agg (hcs rt), .agg (hcs h), .slice A n c] w fun e w' => e = .returned (.bool true) ∧ Below w.heap.size w w' := by
  have u1 : decide ((30 : Int) < (n : Int)) = false := by simp; omega
  have v1 : decide (30 < n) = false := by simp; omega
  have HW1 := Lib.hid (fun w => PFew true tot1 Ah1 nh1 ch1 Af1 nf1 cf1 (by simp; omega) w)
  have HW2 := Lib.hid (fun w => PFew true tot2 Ah2 nh2 ch2 Af2 nf2 cf2 (by simp; omega) w)
  obtain ⟨X, hX⟩ : ∃ X, X = w.heap.size := ⟨_, rfl⟩
  obtain ⟨W, hW⟩ : ∃ W, W = (((w.alloc (.cells (trc tot1 Ah1 nh1 ch1 Af1 nf1 cf1).toArray 26)).alloc (.cells (trc tot2 Ah2 nh2 ch2 Af2 nf2 cf2).toArray 26)).alloc (.cells (rt.map bv).toArray 28)).alloc (.cells (h.map bv).toArray 28) := ⟨_, rfl⟩
  have bW : Below w.heap.size w W := by rw [hW]; exact ((((Below.refl _ _).alloc (Nat.le_refl _) _).alloc (by simp) _).alloc (by simp; omega) _).alloc (by simp; omega) _
  have aX0 : Av W X 26 (trc tot1 Ah1 nh1 ch1 Af1 nf1 cf1) := by rw [hW, hX]; exact (((Av.new w _ _).alloc _).alloc _).alloc _
  have aX1 : Av W (X + 1) 26 (trc tot2 Ah2 nh2 ch2 Af2 nf2 cf2) := by rw [hW, hX, ← World.size_alloc w (.cells (trc tot1 Ah1 nh1 ch1 Af1 nf1 cf1).toArray 26)]; exact ((Av.new _ _ _).alloc _).alloc _
  have aX2 : Av W (X + 2) 28 (rt.map bv) := by rw [hW, hX, show w.heap.size + 2 = ((w.alloc (.cells (trc tot1 Ah1 nh1 ch1 Af1 nf1 cf1).toArray 26)).alloc (.cells (trc tot2 Ah2 nh2 ch2 Af2 nf2 cf2).toArray 26)).heap.size by simp]; exact (Av.new _ _ _).alloc _
  have aX3 : Av W (X + 3) 28 (h.map bv) := by rw [hW, hX, show w.heap.size + 3 = (((w.alloc (.cells (trc tot1 Ah1 nh1 ch1 Af1 nf1 cf1).toArray 26)).alloc (.cells (trc tot2 Ah2 nh2 ch2 Af2 nf2 cf2).toArray 26)).alloc (.cells (rt.map bv).toArray 28)).heap.size by simp]; exact Av.new _ _ _
  have HA := Lib.hid (awake12 W (hT.below bW))
  have rv : (rt.map bv).length = 32 := by rw [List.length_map, rt32]
  have hv : (h.map bv).length = 32 := by rw [List.length_map, h32]
  obtain ⟨pl, ok, pl32, pll, HPF⟩ := path_form ((qFnd tot1 hs1 fl1 pos).map fun _ => qPath tot1 hs1 fl1 pos) (fun l hl => by
    cases hq : qFnd tot1 hs1 fl1 pos with
    | none => rw [hq] at hl; cases hl
    | some r =>
      rw [hq] at hl
      obtain rfl := Option.some.inj hl
      obtain ⟨ql1, -, -, htot1, -⟩ := qPath_climbs hq
      exact ⟨qPath_32 tot1 hs1 fl1 pos g1, by rw [ql1]; have := (pHt_spec tot1 htot1).1; omega⟩)
  have HP1 := fun w' a b t => (PPath fl1 hs1 g1 tot1 Ah1 nh1 ch1 Af1 nf1 cf1 hnh1 hnf1 ht1 (by omega) (by omega) pos w' a b t).mono fun e w'' q => HPF w' e w'' q
  have HP2 := fun w' a b => (PathR fl1 hs1 g1 tot1 Ah1 nh1 ch1 Af1 nf1 cf1 hnh1 hnf1 ht1 (by omega) (by omega) pos w' a b).mono fun e w'' q => HPF w' e w'' q
  obtain ⟨s1, s2, cb, HCF1, HCF2⟩ := clash_form (qClash tot1 hs1 fl1 tot2 hs2 fl2 pos)
  have HC1 := fun w' a b a' b' t => (PClash fl1 hs1 g1 tot1 Ah1 nh1 ch1 Af1 nf1 cf1 hnh1 hnf1 ht1 (by omega) (by omega) fl2 hs2 g2 tot2 Ah2 nh2 ch2 Af2 nf2 cf2 hnh2 hnf2 ht2 (by omega) (by omega) pos w' a b a' b' t).mono fun e w'' q => HCF1 w' e w'' q
  have HC2 := fun w' a b a' b' => (ClashR fl1 hs1 g1 tot1 Ah1 nh1 ch1 Af1 nf1 cf1 hnh1 hnf1 ht1 (by omega) (by omega) fl2 hs2 g2 tot2 Ah2 nh2 ch2 Af2 nf2 cf2 hnh2 hnf2 ht2 (by omega) (by omega) pos w' a b a' b').mono fun e w'' q => HCF2 w' e w'' q
  have HK1 := fun w' a b t => PCheck fl1 hs1 g1 tot1 Ah1 nh1 ch1 Af1 nf1 cf1 hnh1 hnf1 ht1 (by omega) (by omega) rt h rt32 h32 pos w' a b t
  have HK2 := fun w' a b => CheckR fl1 hs1 g1 tot1 Ah1 nh1 ch1 Af1 nf1 cf1 hnh1 hnf1 ht1 (by omega) (by omega) rt h rt32 h32 pos w' a b
  obtain ⟨k, hk⟩ : ∃ k : Nat, max pos 0 = (k : Int) := ⟨(max pos 0).toNat, by omega⟩
  have HS1 := fun w' a t => PSteps h h32 p p32 pos k hk (by omega) A n c hn (by omega) w' a t
  have HS2 := fun w' a => StepsR h h32 p p32 pos k hk (by omega) A n c hn (by omega) w' a
  have ts64 := qSt_64 h p k h32 p32
  have tsl : (qSt h p k).length = n := by rw [qSt_length, hn]
  have HTx := fun gs qs B1 B2 c1 c2 w' a b l1 l2 => TextsR (qSt h p k) ts64 gs qs B1 B2 n c1 c2 tsl (by omega) w' a b l1 l2
  have HSm := fun B1 B2 c1 c2 w' a b => SameH pl pl pl32 pl32 B1 B2 pl.length pl.length c1 c2 rfl rfl pll pll w' a b
  rw [beq_self_eq_true] at HSm
  have HT1 := fun w' => PTree tot1 Ah1 nh1 ch1 Af1 nf1 cf1 w'
  have HT2 := fun w' => PTree tot2 Ah2 nh2 ch2 Af2 nf2 cf2 w'
  generalize qSt h p k = ts at *
  unfold StepsPost at HS1
  unfold StepsPostR at HS2
  rw [tsl] at HS1 HS2
  generalize qCheck tot1 hs1 fl1 rt pos h = qc at *
  obtain ⟨pn, hpn⟩ : ∃ pn, pn = pl.length := ⟨_, rfl⟩
  rw [← hpn] at HP1 HP2 HSm
  obtain ⟨m1, hm1⟩ : ∃ m, m = s1.length := ⟨_, rfl⟩
  obtain ⟨m2, hm2⟩ : ∃ m, m = s2.length := ⟨_, rfl⟩
  clear HPF HCF1 HCF2 hk
  replace HP1 := Lib.hid HP1
  replace HP2 := Lib.hid HP2
  replace HC1 := Lib.hid HC1
  replace HC2 := Lib.hid HC2
  replace HK1 := Lib.hid HK1
  replace HK2 := Lib.hid HK2
  replace HS1 := Lib.hid HS1
  replace HS2 := Lib.hid HS2
  replace HTx := Lib.hid HTx
  replace HSm := Lib.hid HSm
  replace HT1 := Lib.hid HT1
  replace HT2 := Lib.hid HT2
  replace ts64 := Lib.hid ts64
  replace tsl := Lib.hid tsl
  replace hpn := Lib.hid hpn
  replace rv := Lib.hid rv
  replace hv := Lib.hid hv
  replace rt32 := Lib.hid rt32
  replace h32 := Lib.hid h32
  replace hn := Lib.hid hn
  replace hnh1 := Lib.hid hnh1
  replace hnf1 := Lib.hid hnf1
  replace hnh2 := Lib.hid hnh2
  replace hnf2 := Lib.hid hnf2
  replace hW := Lib.hid hW
  replace hX := Lib.hid hX
  go_enter Tryd.func3, Tryd.ntmps3
  go_upto_region 1 with fail
  rw [← hX.out]
  rw [← hW.out]
  go_upto_region 4 with (first
    | (go_at_call 9; refine (HA.out).mono ?_; rintro e w1 ⟨rfl, b1⟩; have a10 := aX0.below b1; have a11 := aX1.below b1)
    | ((with_reducible refine wpList_loadF 26 a10 ?_ _ 3 ?_ Tryd.underlying26 ?_ ?_ ?_); rfl; rfl; rfl; kernel_rfl)
    | (go_at_call 10; (first
        | ((with_reducible refine (HW1.out w1).mono ?_); rintro e w2 ⟨rfl, b2⟩; have a21 := a11.below b2)
        | ((with_reducible refine (HW2.out w2).mono ?_); rintro e w3 ⟨rfl, b3⟩)))
    | ((with_reducible refine wpList_loadG 26 a21 ?_ ?_ _ 3 rfl Tryd.underlying26 ?_ ?_ ?_); rfl; rfl; rfl; kernel_rfl))
  have b123 := b1.trans ((b2.trans (b3.mono b2.size)).mono b1.size)
  have bw3 := bW.trans (b123.mono bW.size)
  replace aX0 := aX0.below b123
  replace aX1 := aX1.below b123
  replace aX2 := aX2.below b123
  replace aX3 := aX3.below b123
  clear b1 b2 b3 b123 bW a10 a11 a21 HA HW1 HW2
  go_upto_region 5 with (first
    | ((with_reducible refine wpList_loadF 26 aX0 ?_ _ 3 ?_ Tryd.underlying26 ?_ ?_ ?_); rfl; rfl; rfl; kernel_rfl)
    | (go_at_call 12; refine (HT1.out w3).mono ?_; rintro e w4 ⟨rfl, b4⟩; have bw4 := bw3.trans (b4.mono bw3.size))
    | (go_at_call 11; refine (HP1.out w4 (hrh1.below bw4) (hrf1.below bw4) (hT.below bw4)).mono ?_; rintro e w5 ⟨b5, A1, c1, rfl, rp1⟩))
  have b45 := b4.trans (b5.mono b4.size)
  have bw5 := bw3.trans (b45.mono bw3.size)
  replace aX0 := aX0.below b45
  replace aX1 := aX1.below b45
  replace aX2 := aX2.below b45
  replace aX3 := aX3.below b45
  clear b4 b5 b45 bw3 bw4 HP1
  go_upto_region 6 with (first
    | ((with_reducible refine wpList_loadF 26 aX0 ?_ _ 3 ?_ Tryd.underlying26 ?_ ?_ ?_); rfl; rfl; rfl; kernel_rfl)
    | (go_at_call 13; refine (HP2.out w5 (hrh1.below bw5) (hrf1.below bw5)).mono ?_; rintro e w6 ⟨b6, A2, c2, rfl, rp2⟩))
  have bw6 := bw5.trans (b6.mono bw5.size)
  replace aX0 := aX0.below b6
  replace aX1 := aX1.below b6
  replace aX2 := aX2.below b6
  replace aX3 := aX3.below b6
  replace rp1 := rp1.below b6
  clear b6 bw5 HP2
  have H6 : ∀ w', Ext w6.drew w' → Below w.heap.size w w' := fun w' hE => bw6.trans (hE.drew.mono bw6.size)
  refine wp_region_rel [(5, ClW s1 s2 cb), (6, ClW s1 s2 cb), (7, SlW s1), (8, SlW s2), (10, SlW s1), (11, SlW s2)] Ext (by kernel_rfl) (by kernel_rfl) (by kernel_rfl) Ext.refl Ext.trans (by
    intro p hp v w w' hR
    simp only [List.mem_cons, List.not_mem_nil, or_false] at hp
    rcases hp with rfl | rfl | rfl | rfl | rfl | rfl
    · exact ClW.mono hR
    · exact ClW.mono hR
    · exact SlW.mono hR
    · exact SlW.mono hR
    · exact SlW.mono hR
    · exact SlW.mono hR) ?_
  refine relPure Ext.refl rfl rfl rfl rfl (c := .agg (trc tot1 Ah1 nh1 ch1 Af1 nf1 cf1).toArray) (fun w hw => exec_loadAv (aX0.below hw.drew) _ _ rfl rfl _ 3 rfl Tryd.underlying26 rfl (by kernel_rfl)) (by simp only [List.set_cons_succ, List.set_cons_zero]; rfl) ?_
  refine relCall1 rfl rfl rfl rfl (c := .agg (trc tot1 Ah1 nh1 ch1 Af1 nf1 cf1).toArray) 12 #[.agg (trc tot1 Ah1 nh1 ch1 Af1 nf1 cf1).toArray] (fun w => by go_simp) (fun w hw => HT1.out w) (by simp only [List.set_cons_succ, List.set_cons_zero]; rfl) ?_
  refine relPure Ext.refl rfl rfl rfl rfl (c := .agg (trc tot2 Ah2 nh2 ch2 Af2 nf2 cf2).toArray) (fun w hw => exec_loadAv (aX1.below hw.drew) _ _ rfl rfl _ 3 rfl Tryd.underlying26 rfl (by kernel_rfl)) (by simp only [List.set_cons_succ, List.set_cons_zero]; rfl) ?_
  refine relCall1 rfl rfl rfl rfl (c := .agg (trc tot2 Ah2 nh2 ch2 Af2 nf2 cf2).toArray) 12 #[.agg (trc tot2 Ah2 nh2 ch2 Af2 nf2 cf2).toArray] (fun w => by go_simp) (fun w hw => HT2.out w) (by simp only [List.set_cons_succ, List.set_cons_zero]; rfl) ?_
  refine relMove Ext.refl rfl rfl rfl rfl _ (.inl rfl) (by conv => lhs; whnf) (by simp only [List.set_cons_succ, List.set_cons_zero]; rfl) ?_
  refine relWord _ rfl (fun w hw => fill_none rfl (relOp_yes rfl (relRes_enter 14 #[.agg (trc tot1 Ah1 nh1 ch1 Af1 nf1 cf1).toArray, .agg (trc tot2 Ah2 nh2 ch2 Af2 nf2 cf2).toArray, .int .i64 pos] (by go_simp) ((HC1.out w (hrh1.below (H6 w hw)) (hrf1.below (H6 w hw)) (hrh2.below (H6 w hw)) (hrf2.below (H6 w hw)) (hT.below (H6 w hw))).mono ?_)))) ?_
  · rintro e w' ⟨hb, A, c, B, d, rfl, x1, x2⟩
    exact ⟨_, rfl, hb, A, c, B, d, rfl, x1, x2⟩
  refine relWord _ rfl (fun w hw => fill_take rfl rfl fun u hu => fill_none rfl (relOp_yes rfl ?_)) ?_
  · go_simp
    exact ⟨Ext.refl _, hu⟩
  refine relWord _ rfl (fun w hw => fill_skip rfl (fill_take rfl rfl fun u hu => fill_none rfl (relOp_yes rfl ?_))) ?_
  · obtain ⟨A, c, B, d, rfl, x1, x2⟩ := hu
    go_simp
    exact ⟨Ext.refl _, A, c, rfl, x1⟩
  refine relWord _ rfl (fun w hw => fill_skip rfl (fill_take rfl rfl fun u hu => fill_none rfl (relOp_yes rfl ?_))) ?_
  · obtain ⟨A, c, B, d, rfl, x1, x2⟩ := hu
    go_simp
    exact ⟨Ext.refl _, B, d, rfl, x2⟩
  refine relOn rfl rfl (c := .bool cb) (fun w hw => fill_skip rfl (fill_take rfl rfl fun u hu => fill_none rfl (relOp_yes rfl ?_))) (by simp only [List.set_cons_succ, List.set_cons_zero]; rfl) ?_
  · obtain ⟨A, c, B, d, rfl, x1, x2⟩ := hu
    go_simp
    exact ⟨Ext.refl _, rfl⟩
  refine relWord _ rfl (fun w hw => fill_skip rfl (fill_skip rfl (fill_take rfl rfl fun u hu => fill_none rfl (relOp_yes rfl ?_)))) ?_
  · go_simp
    exact ⟨Ext.refl _, hu⟩
  refine relWord _ rfl (fun w hw => fill_skip rfl (fill_skip rfl (fill_skip rfl (fill_take rfl rfl fun u hu => fill_none rfl (relOp_yes rfl ?_))))) ?_
  · go_simp
    exact ⟨Ext.refl _, hu⟩
  refine relMove Ext.refl rfl rfl rfl rfl _ (.inr rfl) (by conv => lhs; whnf) (by simp only [List.set_cons_succ, List.set_cons_zero]; rfl) ?_
  refine relEnd fun w7 hw7 => fill_take rfl rfl fun v5 h5 => fill_take rfl rfl fun v6 h6 => fill_take rfl rfl fun v7 h7 => fill_take rfl rfl fun v8 h8 => fill_take rfl rfl fun v10 h10 => fill_take rfl rfl fun v11 h11 => fill_end ?_
  obtain ⟨_, _, _, _, rfl, -, -⟩ := h5
  obtain ⟨_, _, _, _, rfl, -, -⟩ := h6
  obtain ⟨_, _, rfl, -⟩ := h7
  obtain ⟨_, _, rfl, -⟩ := h8
  obtain ⟨A3, c3, rfl, x1⟩ := h10
  obtain ⟨B3, d3, rfl, x2⟩ := h11
  simp only [List.set_cons_succ, List.set_cons_zero]
  have b7 := hw7.drew
  have bw7 := bw6.trans (b7.mono bw6.size)
  replace aX0 := aX0.below b7
  replace aX1 := aX1.below b7
  replace aX2 := aX2.below b7
  replace aX3 := aX3.below b7
  replace rp1 := rp1.below b7
  replace rp2 := rp2.below b7
  clear b7 hw7 H6 bw6 HC1 HT2
  go_upto_region 8 with (first
    | ((with_reducible refine wpList_loadF 26 aX0 ?_ _ 3 ?_ Tryd.underlying26 ?_ ?_ ?_); rfl; rfl; rfl; kernel_rfl)
    | ((with_reducible refine wpList_loadF 26 aX1 ?_ _ 3 ?_ Tryd.underlying26 ?_ ?_ ?_); rfl; rfl; rfl; kernel_rfl)
    | (go_at_call 15; refine (HC2.out w7 (hrh1.below bw7) (hrf1.below bw7) (hrh2.below bw7) (hrf2.below bw7)).mono ?_; rintro e w8 ⟨b8, A4, c4, B4, d4, rfl, x3, x4⟩))
  have bw8 := bw7.trans (b8.mono bw7.size)
  replace aX0 := aX0.below b8
  replace aX2 := aX2.below b8
  replace aX3 := aX3.below b8
  replace rp1 := rp1.below b8
  replace rp2 := rp2.below b8
  replace x1 := x1.below b8
  replace x2 := x2.below b8
  clear b8 bw7 HC2 aX1
  have H8 : ∀ w', Ext w8.drew w' → Below w8.heap.size w8 w' := fun w' hE => hE.drew
  have H1 : ∀ w', Ext w8.drew w' → Below w.heap.size w w' := fun w' hE => bw8.trans (hE.drew.mono bw8.size)
  refine wp_region_rel [(29, TxW n ts), (33, TxW n ts)] Ext (by kernel_rfl) (by kernel_rfl) (by kernel_rfl) Ext.refl Ext.trans (by
    intro p hp v w w' hR
    simp only [List.mem_cons, List.not_mem_nil, or_false] at hp
    rcases hp with rfl | rfl
    · exact TxW.mono hR
    · exact TxW.mono hR) ?_
  refine relMove Ext.refl rfl rfl rfl rfl _ (.inl rfl) (by conv => lhs; whnf) (by simp only [List.set_cons_succ, List.set_cons_zero]; rfl) ?_
  refine relMove Ext.refl rfl rfl rfl rfl _ (.inl rfl) (by conv => lhs; whnf) (by simp only [List.set_cons_succ, List.set_cons_zero]; rfl) ?_
  refine relMove Ext.refl rfl rfl rfl rfl _ (.inl rfl) (by conv => lhs; whnf) (by simp only [List.set_cons_succ, List.set_cons_zero]; rfl) ?_
  refine relMove Ext.refl rfl rfl rfl rfl _ (.inl rfl) (by conv => lhs; whnf) (by simp only [List.set_cons_succ, List.set_cons_zero]; rfl) ?_
  refine relCall1 rfl rfl rfl rfl (c := .bool true) 16 #[.slice A1 pn c1, .slice A2 pn c2] (fun w => by go_simp) (fun w hw => HSm.out A1 A2 c1 c2 w (rp1.below (H8 w hw)) (rp2.below (H8 w hw))) (by simp only [List.set_cons_succ, List.set_cons_zero]; rfl) ?_
  refine relPick Ext.refl rfl rfl rfl rfl _ _ _ rfl rfl (c := .bool true) rfl (by simp only [List.set_cons_succ, List.set_cons_zero]; rfl) ?_
  refine relMove Ext.refl rfl rfl rfl rfl _ (.inl rfl) (by conv => lhs; whnf) (by simp only [List.set_cons_succ, List.set_cons_zero]; rfl) ?_
  refine relMove Ext.refl rfl rfl rfl rfl _ (.inl rfl) (by conv => lhs; whnf) (by simp only [List.set_cons_succ, List.set_cons_zero]; rfl) ?_
  refine relMove Ext.refl rfl rfl rfl rfl _ (.inl rfl) (by conv => lhs; whnf) (by simp only [List.set_cons_succ, List.set_cons_zero]; rfl) ?_
  refine relPure Ext.refl rfl rfl rfl rfl (c := .bool true) (fun w hw => by go_simp; first | done | rfl) (by simp only [List.set_cons_succ, List.set_cons_zero]; rfl) ?_
  refine relPick Ext.refl rfl rfl rfl rfl _ _ _ rfl rfl (c := .bool true) rfl (by simp only [List.set_cons_succ, List.set_cons_zero]; rfl) ?_
  refine relMove Ext.refl rfl rfl rfl rfl _ (.inl rfl) (by conv => lhs; whnf) (by simp only [List.set_cons_succ, List.set_cons_zero]; rfl) ?_
  refine relPure Ext.refl rfl rfl rfl rfl (c := .agg (trc tot1 Ah1 nh1 ch1 Af1 nf1 cf1).toArray) (fun w hw => exec_loadAv (aX0.below hw.drew) _ _ rfl rfl _ 3 rfl Tryd.underlying26 rfl (by kernel_rfl)) (by simp only [List.set_cons_succ, List.set_cons_zero]; rfl) ?_
  refine relCall1 rfl rfl rfl rfl (c := .agg (trc tot1 Ah1 nh1 ch1 Af1 nf1 cf1).toArray) 12 #[.agg (trc tot1 Ah1 nh1 ch1 Af1 nf1 cf1).toArray] (fun w => by go_simp) (fun w hw => HT1.out w) (by simp only [List.set_cons_succ, List.set_cons_zero]; rfl) ?_
  refine relPure Ext.refl rfl rfl rfl rfl (c := .agg (hcs rt)) (fun w hw => exec_loadAv (aX2.below hw.drew) _ _ rfl rfl _ 32 rv.out Tryd.underlying28 rfl (by kernel_rfl)) (by simp only [List.set_cons_succ, List.set_cons_zero]; rfl) ?_
  refine relMove Ext.refl rfl rfl rfl rfl _ (.inl rfl) (by conv => lhs; whnf) (by simp only [List.set_cons_succ, List.set_cons_zero]; rfl) ?_
  refine relPure Ext.refl rfl rfl rfl rfl (c := .agg (hcs h)) (fun w hw => exec_loadAv (aX3.below hw.drew) _ _ rfl rfl _ 32 hv.out Tryd.underlying28 rfl (by kernel_rfl)) (by simp only [List.set_cons_succ, List.set_cons_zero]; rfl) ?_
  refine relCall1 rfl rfl rfl rfl (c := .bool qc) 17 #[.agg (trc tot1 Ah1 nh1 ch1 Af1 nf1 cf1).toArray, .agg (hcs rt), .int .i64 pos, .agg (hcs h)] (fun w => by go_simp) (fun w hw => HK1.out w (hrh1.below (H1 w hw)) (hrf1.below (H1 w hw)) (hT.below (H1 w hw))) (by simp only [List.set_cons_succ, List.set_cons_zero]; rfl) ?_
  refine relPure Ext.refl rfl rfl rfl rfl (c := .agg (trc tot1 Ah1 nh1 ch1 Af1 nf1 cf1).toArray) (fun w hw => exec_loadAv (aX0.below hw.drew) _ _ rfl rfl _ 3 rfl Tryd.underlying26 rfl (by kernel_rfl)) (by simp only [List.set_cons_succ, List.set_cons_zero]; rfl) ?_
  refine relPure Ext.refl rfl rfl rfl rfl (c := .agg (hcs rt)) (fun w hw => exec_loadAv (aX2.below hw.drew) _ _ rfl rfl _ 32 rv.out Tryd.underlying28 rfl (by kernel_rfl)) (by simp only [List.set_cons_succ, List.set_cons_zero]; rfl) ?_
  refine relMove Ext.refl rfl rfl rfl rfl _ (.inl rfl) (by conv => lhs; whnf) (by simp only [List.set_cons_succ, List.set_cons_zero]; rfl) ?_
  refine relPure Ext.refl rfl rfl rfl rfl (c := .agg (hcs h)) (fun w hw => exec_loadAv (aX3.below hw.drew) _ _ rfl rfl _ 32 hv.out Tryd.underlying28 rfl (by kernel_rfl)) (by simp only [List.set_cons_succ, List.set_cons_zero]; rfl) ?_
  refine relCall1 rfl rfl rfl rfl (c := .bool qc) 18 #[.agg (trc tot1 Ah1 nh1 ch1 Af1 nf1 cf1).toArray, .agg (hcs rt), .int .i64 pos, .agg (hcs h)] (fun w => by go_simp) (fun w hw => HK2.out w (hrh1.below (H1 w hw)) (hrf1.below (H1 w hw))) (by simp only [List.set_cons_succ, List.set_cons_zero]; rfl) ?_
  refine relPure Ext.refl rfl rfl rfl rfl (c := .bool true) (fun w hw => by go_simp; first | done | rfl) (by simp only [List.set_cons_succ, List.set_cons_zero]; rfl) ?_
  refine relPick Ext.refl rfl rfl rfl rfl _ _ _ rfl rfl (c := .bool true) rfl (by simp only [List.set_cons_succ, List.set_cons_zero]; rfl) ?_
  refine relMove Ext.refl rfl rfl rfl rfl _ (.inl rfl) (by conv => lhs; whnf) (by simp only [List.set_cons_succ, List.set_cons_zero]; rfl) ?_
  refine relPure Ext.refl rfl rfl rfl rfl (c := .agg (hcs h)) (fun w hw => exec_loadAv (aX3.below hw.drew) _ _ rfl rfl _ 32 hv.out Tryd.underlying28 rfl (by kernel_rfl)) (by simp only [List.set_cons_succ, List.set_cons_zero]; rfl) ?_
  refine relMove Ext.refl rfl rfl rfl rfl _ (.inl rfl) (by conv => lhs; whnf) (by simp only [List.set_cons_succ, List.set_cons_zero]; rfl) ?_
  refine relMove Ext.refl rfl rfl rfl rfl _ (.inl rfl) (by conv => lhs; whnf) (by simp only [List.set_cons_succ, List.set_cons_zero]; rfl) ?_
  refine relWord _ rfl (fun w hw => fill_none rfl (relOp_yes rfl (relRes_enter 20 #[.agg (hcs h), .slice A n c, .int .i64 pos] (by go_simp) ((HS1.out w (hrp.below (H1 w hw)) (hT.below (H1 w hw))).mono ?_)))) ?_
  · rintro e w' ⟨hb, B, d, gs, rfl, _, _, _, x5, x6⟩
    exact ⟨_, rfl, hb, B, d, gs.map fun g => (g, 64), rfl, by rw [tgc_ofSt]; exact x5, TgAt.ofSt x6⟩
  refine relPure Ext.refl rfl rfl rfl rfl (c := .agg (hcs h)) (fun w hw => exec_loadAv (aX3.below hw.drew) _ _ rfl rfl _ 32 hv.out Tryd.underlying28 rfl (by kernel_rfl)) (by simp only [List.set_cons_succ, List.set_cons_zero]; rfl) ?_
  refine relMove Ext.refl rfl rfl rfl rfl _ (.inl rfl) (by conv => lhs; whnf) (by simp only [List.set_cons_succ, List.set_cons_zero]; rfl) ?_
  refine relMove Ext.refl rfl rfl rfl rfl _ (.inl rfl) (by conv => lhs; whnf) (by simp only [List.set_cons_succ, List.set_cons_zero]; rfl) ?_
  refine relWord _ rfl (fun w hw => fill_none rfl (relOp_yes rfl (relRes_enter 21 #[.agg (hcs h), .slice A n c, .int .i64 pos] (by go_simp) ((HS2.out w (hrp.below (H1 w hw))).mono ?_)))) ?_
  · rintro e w' ⟨hb, B, d, gs, rfl, x5, x6⟩
    exact ⟨_, rfl, hb, B, d, gs, rfl, x5, x6⟩
  refine relOn rfl rfl (c := .bool true) (fun w hw => fill_take rfl rfl fun u hu => fill_take rfl rfl fun v hv' => fill_end ?_) (by simp only [List.set_cons_succ, List.set_cons_zero]; rfl) ?_
  · obtain ⟨B1, e1, gs, rfl, x5, x6⟩ := hu
    obtain ⟨B2, e2, qs, rfl, x7, x8⟩ := hv'
    simp only [List.set_cons_succ, List.set_cons_zero]
    refine relOp_yes rfl (relRes_enter 19 #[.slice B1 n e1, .slice B2 n e2] (by go_simp) ?_)
    exact (HTx.out gs qs B1 B2 e1 e2 w x5 x7 x6 x8).mono fun _ _ h => ⟨_, h.1, h.2, rfl⟩
  refine relPick Ext.refl rfl rfl rfl rfl _ _ _ rfl rfl (c := .bool true) rfl (by simp only [List.set_cons_succ, List.set_cons_zero]; rfl) ?_
  refine relMove Ext.refl rfl rfl rfl rfl _ (.inl rfl) (by conv => lhs; whnf) (by simp only [List.set_cons_succ, List.set_cons_zero]; rfl) ?_
  refine relMove Ext.refl rfl rfl rfl rfl _ (.inl rfl) (by conv => lhs; whnf) (by simp only [List.set_cons_succ, List.set_cons_zero]; rfl) ?_
  refine relStr rfl rfl rfl rfl _ rfl rfl s1 rfl (fun w hw => x1.below (H8 w hw)) (by simp only [List.set_cons_succ, List.set_cons_zero]; rfl) ?_
  refine relMove Ext.refl rfl rfl rfl rfl _ (.inl rfl) (by conv => lhs; whnf) (by simp only [List.set_cons_succ, List.set_cons_zero]; rfl) ?_
  refine relStr rfl rfl rfl rfl _ rfl rfl s1 rfl (fun w hw => x3.below (H8 w hw)) (by simp only [List.set_cons_succ, List.set_cons_zero]; rfl) ?_
  refine relPure Ext.refl rfl rfl rfl rfl (c := .bool true) (fun w hw => by go_simp; first | done | rfl) (by simp only [List.set_cons_succ, List.set_cons_zero]; rfl) ?_
  refine relPick Ext.refl rfl rfl rfl rfl _ _ _ rfl rfl (c := .bool true) rfl (by simp only [List.set_cons_succ, List.set_cons_zero]; rfl) ?_
  refine relMove Ext.refl rfl rfl rfl rfl _ (.inl rfl) (by conv => lhs; whnf) (by simp only [List.set_cons_succ, List.set_cons_zero]; rfl) ?_
  refine relMove Ext.refl rfl rfl rfl rfl _ (.inl rfl) (by conv => lhs; whnf) (by simp only [List.set_cons_succ, List.set_cons_zero]; rfl) ?_
  refine relStr rfl rfl rfl rfl _ rfl rfl s2 rfl (fun w hw => x2.below (H8 w hw)) (by simp only [List.set_cons_succ, List.set_cons_zero]; rfl) ?_
  refine relMove Ext.refl rfl rfl rfl rfl _ (.inl rfl) (by conv => lhs; whnf) (by simp only [List.set_cons_succ, List.set_cons_zero]; rfl) ?_
  refine relStr rfl rfl rfl rfl _ rfl rfl s2 rfl (fun w hw => x4.below (H8 w hw)) (by simp only [List.set_cons_succ, List.set_cons_zero]; rfl) ?_
  refine relPure Ext.refl rfl rfl rfl rfl (c := .bool true) (fun w hw => by go_simp; first | done | rfl) (by simp only [List.set_cons_succ, List.set_cons_zero]; rfl) ?_
  refine relPick Ext.refl rfl rfl rfl rfl _ _ _ rfl rfl (c := .bool true) rfl (by simp only [List.set_cons_succ, List.set_cons_zero]; rfl) ?_
  refine relMove Ext.refl rfl rfl rfl rfl _ (.inl rfl) (by conv => lhs; whnf) (by simp only [List.set_cons_succ, List.set_cons_zero]; rfl) ?_
  refine relMove Ext.refl rfl rfl rfl rfl _ (.inl rfl) (by conv => lhs; whnf) (by simp only [List.set_cons_succ, List.set_cons_zero]; rfl) ?_
  refine relMove Ext.refl rfl rfl rfl rfl _ (.inl rfl) (by conv => lhs; whnf) (by simp only [List.set_cons_succ, List.set_cons_zero]; rfl) ?_
  refine relPure Ext.refl rfl rfl rfl rfl (c := .bool true) (fun w hw => by go_simp; first | done | rfl) (by simp only [List.set_cons_succ, List.set_cons_zero]; rfl) ?_
  refine relPick Ext.refl rfl rfl rfl rfl _ _ _ rfl rfl (c := .bool true) rfl (by simp only [List.set_cons_succ, List.set_cons_zero]; rfl) ?_
  refine relMove Ext.refl rfl rfl rfl rfl _ (.inr rfl) (by conv => lhs; whnf) (by simp only [List.set_cons_succ, List.set_cons_zero]; rfl) ?_
  refine relEnd fun w9 hw9 => fill_take rfl rfl fun u hu => fill_take rfl rfl fun v hv' => fill_end ?_
  simp only [List.set_cons_succ, List.set_cons_zero]
  have b9 := hw9.drew
  go_wp2
  go_ret
  exact ⟨rfl, bw8.trans (b9.mono bw8.size)⟩
theorem law_ProofIs (fl1 : List UInt8) (hs1 : List (List UInt8)) (g1 : All32 hs1) (tot1 : Nat) (Ah1 : Option Addr) (nh1 ch1 : Nat) (Af1 : Option Addr) (nf1 cf1 : Nat) (hnh1 : hs1.length = nh1) (hnf1 : fl1.length = nf1) (ht1 : tot1 < 4294967296) (fl2 : List UInt8) (hs2 : List (List UInt8)) (g2 : All32 hs2) (tot2 : Nat) (Ah2 : Option Addr) (nh2 ch2 : Nat) (Af2 : Option Addr) (nf2 cf2 : Nat) (hnh2 : hs2.length = nh2) (hnf2 : fl2.length = nf2) (ht2 : tot2 < 4294967296) (pos : Int) (hpz : pos ≤ 9223372036854775807) (rt : List UInt8) (rt32 : rt.length = 32) (h : List UInt8) (h32 : h.length = 32) (p : List (List UInt8)) (p32 : All32 p) (A : Option Addr) (n c : Nat) (hn : p.length = n)
    (w : World) (hrh1 : Rd w Ah1 (hcl hs1)) (hrf1 : Rd w Af1 (fl1.map bv)) (hrh2 : Rd w Ah2 (hcl hs2)) (hrf2 : Rd w Af2 (fl2.map bv)) (hrp : Rd w A (hcl p)) (hT : Tabs w) : Calls Tryd.prog 3 #[.agg (trc tot1 Ah1 nh1 ch1 Af1 nf1 cf1).toArray, .agg (trc tot2 Ah2 nh2 ch2 Af2 nf2 cf2).toArray, .int .i64 pos, .agg (hcs rt), .agg (hcs h), .slice A n c] w fun e w' => e = .returned (.bool true) ∧ Below w.heap.size w w' := by
  by_cases q1 : nh1 ≤ 60 ∧ nf1 ≤ 60
  · by_cases q2 : nh2 ≤ 60 ∧ nf2 ≤ 60
    · by_cases q3 : 30 < n
      · exact fis_2 tot1 Ah1 nh1 ch1 Af1 nf1 cf1 tot2 Ah2 nh2 ch2 Af2 nf2 cf2 pos rt h A n c q1 q2 q3 w hT
      · exact fis_3 fl1 hs1 g1 tot1 Ah1 nh1 ch1 Af1 nf1 cf1 hnh1 hnf1 ht1 fl2 hs2 g2 tot2 Ah2 nh2 ch2 Af2 nf2 cf2 hnh2 hnf2 ht2 pos hpz rt rt32 h h32 p p32 A n c hn q1 q2 q3 w hrh1 hrf1 hrh2 hrf2 hrp hT
    · exact fis_1 tot1 Ah1 nh1 ch1 Af1 nf1 cf1 tot2 Ah2 nh2 ch2 Af2 nf2 cf2 pos rt h A n c q1 q2 w hT
  · exact fis_0 tot1 Ah1 nh1 ch1 Af1 nf1 cf1 tot2 Ah2 nh2 ch2 Af2 nf2 cf2 pos rt h A n c q1 w hT
end Go.Proofs.YtdkknincamkhpaaDoor
