/- The law PartialIs: the walk. -/
import Derived.Test.YtmdllemgjhkphaaDoorRw
import Derived.Test.YtmdllemgjhkphaaDoorRz
import Derived.Test.YtmdllemgjhkphaaDoorPr21
import Derived.Test.YtmdllemgjhkphaaDoorPa
namespace Go.Proofs.YtmdllemgjhkphaaDoor
open Go.RowKit
attribute [local go_sem high] slB_lh slB_l slB_h
set_option maxRecDepth 10000 in
set_option maxHeartbeats 4000000 in
theorem pis_0 (A Am : Option Addr) (n c nm cm : Nat) (tot : Nat) (Ah Af : Option Addr) (nh ch nf cf : Nat) (z : Int) (h : 40 < n) (w : World) (hT : Tabs w) : Calls Tryd.prog 7 #[.slice A n c, .slice Am nm cm, .agg (trc tot Ah nh ch Af nf cf).toArray, .int .i64 z] w fun e w' => e = .returned (.bool true) ∧ Below w.heap.size w w' := by
  have u1 : decide ((40 : Int) < (n : Int)) = true := by simp; omega
  have v1 : decide (40 < n) = true := by simp; omega
  obtain ⟨X, hX⟩ : ∃ X, X = w.heap.size := ⟨_, rfl⟩
  obtain ⟨W, hW⟩ : ∃ W, W = w.alloc (.cells (trc tot Ah nh ch Af nf cf).toArray 26) := ⟨_, rfl⟩
  have bW : Below w.heap.size w W := by rw [hW]; exact (Below.refl _ _).alloc (Nat.le_refl _) _
  have aX : Av W X 26 (trc tot Ah nh ch Af nf cf) := by rw [hW, hX]; exact Av.new _ _ _
  have HA := Lib.hid (awake11 W (hT.below bW))
  replace hW := Lib.hid hW
  replace hX := Lib.hid hX
  go_enter Tryd.func7, Tryd.ntmps7
  go_upto_region 1 with fail
  rw [← hX.out]
  rw [show w.alloc (.cells (trc tot Ah nh ch Af nf cf).toArray 26) = W from hW.out.symm]
  go_wp2_with (go_at_call 9; refine (HA.out).mono ?_; rintro e w1 ⟨rfl, b1⟩; have c1 := (aX.below b1).cell 1 _ rfl; have c2 := (aX.below b1).cell 2 _ rfl)
  go_ret
  exact ⟨rfl, bW.trans (b1.mono bW.size)⟩
set_option maxRecDepth 10000 in
set_option maxHeartbeats 4000000 in
theorem pis_1 (A Am : Option Addr) (n c nm cm : Nat) (tot : Nat) (Ah Af : Option Addr) (nh ch nf cf : Nat) (z : Int) (h1 : ¬ 40 < n) (h : 60 < nm) (w : World) (hT : Tabs w) : Calls Tryd.prog 7 #[.slice A n c, .slice Am nm cm, .agg (trc tot Ah nh ch Af nf cf).toArray, .int .i64 z] w fun e w' => e = .returned (.bool true) ∧ Below w.heap.size w w' := by
  have u1 : decide ((40 : Int) < (n : Int)) = false := by simp; omega
  have v1 : decide (40 < n) = false := by simp; omega
  have u2 : decide ((60 : Int) < (nm : Int)) = true := by simp; omega
  have v2 : decide (60 < nm) = true := by simp; omega
  obtain ⟨X, hX⟩ : ∃ X, X = w.heap.size := ⟨_, rfl⟩
  obtain ⟨W, hW⟩ : ∃ W, W = w.alloc (.cells (trc tot Ah nh ch Af nf cf).toArray 26) := ⟨_, rfl⟩
  have bW : Below w.heap.size w W := by rw [hW]; exact (Below.refl _ _).alloc (Nat.le_refl _) _
  have aX : Av W X 26 (trc tot Ah nh ch Af nf cf) := by rw [hW, hX]; exact Av.new _ _ _
  have HA := Lib.hid (awake11 W (hT.below bW))
  replace hW := Lib.hid hW
  replace hX := Lib.hid hX
  go_enter Tryd.func7, Tryd.ntmps7
  go_upto_region 1 with fail
  rw [← hX.out]
  rw [show w.alloc (.cells (trc tot Ah nh ch Af nf cf).toArray 26) = W from hW.out.symm]
  go_wp2_with (go_at_call 9; refine (HA.out).mono ?_; rintro e w1 ⟨rfl, b1⟩; have c1 := (aX.below b1).cell 1 _ rfl; have c2 := (aX.below b1).cell 2 _ rfl)
  go_ret
  exact ⟨rfl, bW.trans (b1.mono bW.size)⟩
set_option maxRecDepth 10000 in
set_option maxHeartbeats 4000000 in
theorem pis_2 (A Am : Option Addr) (n c nm cm : Nat) (tot : Nat) (Ah Af : Option Addr) (nh ch nf cf : Nat) (z : Int) (h1 : ¬ 40 < n) (h2 : ¬ 60 < nm) (h : 60 < nh) (w : World) (hT : Tabs w) : Calls Tryd.prog 7 #[.slice A n c, .slice Am nm cm, .agg (trc tot Ah nh ch Af nf cf).toArray, .int .i64 z] w fun e w' => e = .returned (.bool true) ∧ Below w.heap.size w w' := by
  have u1 : decide ((40 : Int) < (n : Int)) = false := by simp; omega
  have v1 : decide (40 < n) = false := by simp; omega
  have u2 : decide ((60 : Int) < (nm : Int)) = false := by simp; omega
  have v2 : decide (60 < nm) = false := by simp; omega
  have u3 : decide ((60 : Int) < (nh : Int)) = true := by simp; omega
  have v3 : decide (60 < nh) = true := by simp; omega
  obtain ⟨X, hX⟩ : ∃ X, X = w.heap.size := ⟨_, rfl⟩
  obtain ⟨W, hW⟩ : ∃ W, W = w.alloc (.cells (trc tot Ah nh ch Af nf cf).toArray 26) := ⟨_, rfl⟩
  have bW : Below w.heap.size w W := by rw [hW]; exact (Below.refl _ _).alloc (Nat.le_refl _) _
  have aX : Av W X 26 (trc tot Ah nh ch Af nf cf) := by rw [hW, hX]; exact Av.new _ _ _
  have HA := Lib.hid (awake11 W (hT.below bW))
  replace hW := Lib.hid hW
  replace hX := Lib.hid hX
  go_enter Tryd.func7, Tryd.ntmps7
  go_upto_region 1 with fail
  rw [← hX.out]
  rw [show w.alloc (.cells (trc tot Ah nh ch Af nf cf).toArray 26) = W from hW.out.symm]
  go_wp2_with (go_at_call 9; refine (HA.out).mono ?_; rintro e w1 ⟨rfl, b1⟩; have c1 := (aX.below b1).cell 1 _ rfl; have c2 := (aX.below b1).cell 2 _ rfl)
  go_ret
  exact ⟨rfl, bW.trans (b1.mono bW.size)⟩
set_option maxRecDepth 10000 in
set_option maxHeartbeats 4000000 in
theorem pis_3 (A Am : Option Addr) (n c nm cm : Nat) (tot : Nat) (Ah Af : Option Addr) (nh ch nf cf : Nat) (z : Int) (h1 : ¬ 40 < n) (h2 : ¬ 60 < nm) (h3 : ¬ 60 < nh) (h : 60 < nf) (w : World) (hT : Tabs w) : Calls Tryd.prog 7 #[.slice A n c, .slice Am nm cm, .agg (trc tot Ah nh ch Af nf cf).toArray, .int .i64 z] w fun e w' => e = .returned (.bool true) ∧ Below w.heap.size w w' := by
  have u1 : decide ((40 : Int) < (n : Int)) = false := by simp; omega
  have v1 : decide (40 < n) = false := by simp; omega
  have u2 : decide ((60 : Int) < (nm : Int)) = false := by simp; omega
  have v2 : decide (60 < nm) = false := by simp; omega
  have u3 : decide ((60 : Int) < (nh : Int)) = false := by simp; omega
  have v3 : decide (60 < nh) = false := by simp; omega
  have u4 : decide ((60 : Int) < (nf : Int)) = true := by simp; omega
  have v4 : decide (60 < nf) = true := by simp; omega
  obtain ⟨X, hX⟩ : ∃ X, X = w.heap.size := ⟨_, rfl⟩
  obtain ⟨W, hW⟩ : ∃ W, W = w.alloc (.cells (trc tot Ah nh ch Af nf cf).toArray 26) := ⟨_, rfl⟩
  have bW : Below w.heap.size w W := by rw [hW]; exact (Below.refl _ _).alloc (Nat.le_refl _) _
  have aX : Av W X 26 (trc tot Ah nh ch Af nf cf) := by rw [hW, hX]; exact Av.new _ _ _
  have HA := Lib.hid (awake11 W (hT.below bW))
  replace hW := Lib.hid hW
  replace hX := Lib.hid hX
  go_enter Tryd.func7, Tryd.ntmps7
  go_upto_region 1 with fail
  rw [← hX.out]
  rw [show w.alloc (.cells (trc tot Ah nh ch Af nf cf).toArray 26) = W from hW.out.symm]
  go_wp2_with (go_at_call 9; refine (HA.out).mono ?_; rintro e w1 ⟨rfl, b1⟩; have c1 := (aX.below b1).cell 1 _ rfl; have c2 := (aX.below b1).cell 2 _ rfl)
  go_ret
  exact ⟨rfl, bW.trans (b1.mono bW.size)⟩
set_option maxRecDepth 10000 in
set_option maxHeartbeats 4000000 in
theorem pis_4 (A Am : Option Addr) (n c nm cm : Nat) (tot : Nat) (Ah Af : Option Addr) (nh ch nf cf : Nat) (z : Int) (h1 : ¬ 40 < n) (h2 : ¬ 60 < nm) (h3 : ¬ 60 < nh) (h4 : ¬ 60 < nf) (h : 60 < z) (w : World) (hT : Tabs w) : Calls Tryd.prog 7 #[.slice A n c, .slice Am nm cm, .agg (trc tot Ah nh ch Af nf cf).toArray, .int .i64 z] w fun e w' => e = .returned (.bool true) ∧ Below w.heap.size w w' := by
  have u1 : decide ((40 : Int) < (n : Int)) = false := by simp; omega
  have v1 : decide (40 < n) = false := by simp; omega
  have u2 : decide ((60 : Int) < (nm : Int)) = false := by simp; omega
  have v2 : decide (60 < nm) = false := by simp; omega
  have u3 : decide ((60 : Int) < (nh : Int)) = false := by simp; omega
  have v3 : decide (60 < nh) = false := by simp; omega
  have u4 : decide ((60 : Int) < (nf : Int)) = false := by simp; omega
  have v4 : decide (60 < nf) = false := by simp; omega
  have u5 : decide (60 < z) = true := by simp; omega
  obtain ⟨X, hX⟩ : ∃ X, X = w.heap.size := ⟨_, rfl⟩
  obtain ⟨W, hW⟩ : ∃ W, W = w.alloc (.cells (trc tot Ah nh ch Af nf cf).toArray 26) := ⟨_, rfl⟩
  have bW : Below w.heap.size w W := by rw [hW]; exact (Below.refl _ _).alloc (Nat.le_refl _) _
  have aX : Av W X 26 (trc tot Ah nh ch Af nf cf) := by rw [hW, hX]; exact Av.new _ _ _
  have HA := Lib.hid (awake11 W (hT.below bW))
  replace hW := Lib.hid hW
  replace hX := Lib.hid hX
  go_enter Tryd.func7, Tryd.ntmps7
  go_upto_region 1 with fail
  rw [← hX.out]
  rw [show w.alloc (.cells (trc tot Ah nh ch Af nf cf).toArray 26) = W from hW.out.symm]
  go_wp2_with (go_at_call 9; refine (HA.out).mono ?_; rintro e w1 ⟨rfl, b1⟩; have c1 := (aX.below b1).cell 1 _ rfl; have c2 := (aX.below b1).cell 2 _ rfl)
  go_ret
  exact ⟨rfl, bW.trans (b1.mono bW.size)⟩
theorem exec_eqlHH {ρ : Operand → Value} {o : Oper} {w : World} (x : List UInt8) (h : x.length = 32) {a b : Operand} {t : TypeId} (ho : o.op = .binOp .eql 28 a b t) (hx : ρ a = .agg (hcs x)) (hy : ρ b = .agg (hcs x)) :
    (execOp ρ o).run Tryd.prog w = .ok (.value (.bool true)) w := by
  have := eqlHw x x h h a b w
  rw [beq_self_eq_true] at this
  unfold execOp
  simp only [ho, hx, hy]
  rw [Sem.run_bind, this]
  rfl
/-- what is built, as both say -/
theorem pis_built (hs : List (List UInt8)) (h32 : All32 hs) (ms : List Bool) (A Am : Option Addr) (n c nm cm : Nat) (hn : hs.length = n) (hnm : ms.length = nm) (hn4 : n ≤ 4096) (hnm2 : nm ≤ 1000000) :
    ∃ (tot : Nat) (bh : List (List UInt8)) (fl : List UInt8) (ok : Bool), All32 bh ∧ bh.length ≤ 100000 ∧
      (∀ w, Rd w A (hcl hs) → Rd w Am (ms.map Value.bool) → Tabs w → Calls Tryd.prog 13 #[.slice A n c, .slice Am nm cm] w fun e w' => Below w.heap.size w w' ∧ ∃ Ah ch Af cf, e = .returned (.tuple #[.agg (trc tot Ah bh.length ch Af fl.length cf).toArray, .bool ok]) ∧ Rd w' Ah (hcl bh) ∧ Rd w' Af (fl.map bv)) ∧
      (∀ w, Rd w A (hcl hs) → Rd w Am (ms.map Value.bool) → Calls Tryd.prog 14 #[.slice A n c, .slice Am nm cm] w fun e w' => Below w.heap.size w w' ∧ ∃ Ah ch Af cf, e = .returned (.tuple #[.agg (trc tot Ah bh.length ch Af fl.length cf).toArray, .bool ok]) ∧ Rd w' Ah (hcl bh) ∧ Rd w' Af (fl.map bv)) := by
  by_cases h0 : n = 0
  · subst h0
    refine ⟨0, [], [], false, (fun x hx => by cases hx), by simp, fun w r r2 t => ?_, fun w r r2 => ?_⟩
    · exact (PBuild_no A Am 0 c nm cm (.inl rfl) (by omega) w).mono fun e w' q => ⟨q.2, none, 0, none, 0, q.1, Rd.nil _ _, Rd.nil _ _⟩
    · exact (BuildR_no A Am c nm cm w).mono fun e w' q => ⟨q.2, none, 0, none, 0, q.1, Rd.nil _ _, Rd.nil _ _⟩
  · have hlen : (pBhs hs ms).length ≤ 100000 := by
      rw [pBhs_len hs ms n hn]
      have h1 := List.length_filter_le PV.told (pAll n ms)
      have h2 := pVis_length n ms (pHt n) 0
      have hp : 2 ^ (pHt n + 1) ≤ 2 ^ 13 := Nat.pow_le_pow_right (by omega) (by have := (pHt_spec n hn4).1; omega)
      unfold pAll at h1 ⊢
      omega
    have hb32 : All32 (pBhs hs ms) := by
      rw [pBhs, hn]
      refine pHs_32 (fun l hl => (mLv_mem hs h32 l hl).1) fun x hx _ => ?_
      have hi := pVis_ok (by omega : 0 < n) ms (pHt n) 0 (pHt_pos n (by omega)) x hx
      obtain ⟨l, y, h1, h2, _⟩ := lvq_at hs n hn (by omega) hn4 x.h x.i (pVis_mem n ms _ _ x hx) hi
      exact ⟨l, y, h1, h2⟩
    refine ⟨n, pBhs hs ms, pBfl n ms, true, hb32, hlen, fun w r r2 t => ?_, fun w r r2 => ?_⟩
    · exact (PBuild_yes hs h32 ms A Am n c nm cm hn hnm (by omega) hn4 hnm2 w r r2 t).mono fun e w' ⟨b, Ah, ch, Af, cf, e1, _, _, r1, r2, _⟩ => ⟨b, Ah, ch, Af, cf, e1, r1, r2⟩
    · exact (BuildR_yes hs h32 ms A Am n c nm cm hn hnm (by omega) hn4 hnm2 w r r2).mono fun e w' ⟨b, Ah, ch, Af, cf, e1, _, _, r1, r2, _⟩ => ⟨b, Ah, ch, Af, cf, e1, r1, r2⟩
/-- what is extracted, as both say -/
theorem pis_ext (_ : World) (ans : Option PRes) (hb : ∀ r, ans = some r → r.x.length = 32 ∧ r.l.length ≤ 100000 ∧ ∀ p ∈ r.l, p.2.length = 32) :
    ∃ (x : List UInt8) (l : List (Nat × List UInt8)) (z : Int), x.length = 32 ∧ l.length ≤ 100000 ∧ (∀ p ∈ l, p.2.length = 32) ∧ ∀ w0 e w', ExtPost w0 ans e w' → Below w0.heap.size w0 w' ∧ ∃ B c, e = .returned (.tuple #[.agg (hcs x), .slice B l.length c, .int .i64 z]) ∧ Rd w' B (mlc l) := by
  cases ans with
  | none => exact ⟨zs32, [], 13, rfl, by simp, (fun p hp => by cases hp), fun w0 e w' h => ⟨h.1, none, 0, h.2, Rd.nil _ _⟩⟩
  | some r =>
    obtain ⟨h1, h2, h3⟩ := hb r rfl
    refine ⟨r.x, r.l, 0, h1, h2, h3, fun w0 e w' h => ?_⟩
    obtain ⟨b, B, c, e1, _, _, r1⟩ := h
    exact ⟨b, B, c, e1, r1⟩
/-- the sizes, as both say -/
theorem pis_size (ms : List Bool) (Am : Option Addr) (nm cm : Nat) (z : Int) (hz : z ≤ 60) (hnm : ms.length = nm) (hnm2 : nm ≤ 1000000) :
    ∃ a b : Int, (∀ w, Rd w Am (ms.map Value.bool) → Calls Tryd.prog 16 #[.int .i64 z, .slice Am nm cm] w fun e w' => e = .returned (.tuple #[.int .i64 a, .int .i64 b]) ∧ Below w.heap.size w w') ∧
      (∀ w, Rd w Am (ms.map Value.bool) → Calls Tryd.prog 17 #[.int .i64 z, .slice Am nm cm] w fun e w' => e = .returned (.tuple #[.int .i64 a, .int .i64 b]) ∧ Below w.heap.size w w') := by
  by_cases h : z ≤ 0
  · exact ⟨0, 0, fun w _ => PSize_no Am z nm cm h w, fun w _ => SizeR_no Am z nm cm h w⟩
  · obtain ⟨N, rfl⟩ : ∃ N : Nat, z = (N : Int) := ⟨z.toNat, by omega⟩
    exact ⟨_, _, fun w r => PSize ms Am N nm cm (by omega) (by omega) hnm hnm2 w r, fun w r => SizeR_yes ms Am N nm cm (by omega) (by omega) hnm hnm2 w r⟩
set_option maxRecDepth 100000 in
set_option maxHeartbeats 8000000 in
theorem pis_5 (hs : List (List UInt8)) (h32 : All32 hs) (ms : List Bool) (A Am : Option Addr) (n c nm cm : Nat) (hn : hs.length = n) (hnm : ms.length = nm) (tot : Nat) (gs : List (List UInt8)) (fl : List UInt8) (Ah Af : Option Addr) (nh ch nf cf : Nat) (htot : tot < 4294967296) (hnh : gs.length = nh) (g32 : All32 gs) (hnf : fl.length = nf) (z : Int)
    (h1 : ¬ 40 < n) (h2 : ¬ 60 < nm) (h3 : ¬ 60 < nh) (h4 : ¬ 60 < nf) (h5 : ¬ 60 < z) (w : World) (hr : Rd w A (hcl hs)) (hrm : Rd w Am (ms.map Value.bool)) (hrh : Rd w Ah (hcl gs)) (hrf : Rd w Af (fl.map bv)) (hT : Tabs w) : Calls Tryd.prog 7 #[.slice A n c, .slice Am nm cm, .agg (trc tot Ah nh ch Af nf cf).toArray, .int .i64 z] w fun e w' => e = .returned (.bool true) ∧ Below w.heap.size w w' := by
  have u1 : decide ((40 : Int) < (n : Int)) = false := by simp; omega
  have v1 : decide (40 < n) = false := by simp; omega
  have u2 : decide ((60 : Int) < (nm : Int)) = false := by simp; omega
  have v2 : decide (60 < nm) = false := by simp; omega
  have u3 : decide ((60 : Int) < (nh : Int)) = false := by simp; omega
  have v3 : decide (60 < nh) = false := by simp; omega
  have u4 : decide ((60 : Int) < (nf : Int)) = false := by simp; omega
  have v4 : decide (60 < nf) = false := by simp; omega
  have u5 : decide (60 < z) = false := by simp; omega
  obtain ⟨X, hX⟩ : ∃ X, X = w.heap.size := ⟨_, rfl⟩
  obtain ⟨W, hW⟩ : ∃ W, W = w.alloc (.cells (trc tot Ah nh ch Af nf cf).toArray 26) := ⟨_, rfl⟩
  have bW : Below w.heap.size w W := by rw [hW]; exact (Below.refl _ _).alloc (Nat.le_refl _) _
  have aX : Av W X 26 (trc tot Ah nh ch Af nf cf) := by rw [hW, hX]; exact Av.new _ _ _
  have HA := Lib.hid (awake11 W (hT.below bW))
  obtain ⟨bt, bh, bf, ok, bh32, bhl, HB1, HB2⟩ := pis_built hs h32 ms A Am n c nm cm hn hnm (by omega) (by omega)
  obtain ⟨x, ml, er, x32, mll, ml32, HEX⟩ := pis_ext w (pExt tot gs fl) (fun r hr => by
    unfold pExt at hr
    split at hr
    · obtain ⟨hr1, _⟩ := Option.filter_eq_some_iff.1 hr
      have := pRd_bounds tot fl gs g32 _ _ _ _ _ hr1
      exact ⟨this.2.2.2.2.2.1, by omega, this.2.2.2.2.2.2⟩
    · cases hr)
  have HE1 := fun w' r r2 t => (PExt fl gs g32 tot Ah nh ch Af nf cf hnh hnf htot (by omega) (by omega) w' r r2 t).mono fun e w'' q => HEX w' e w'' q
  have HE2 := fun w' r r2 => (ExtractR fl gs g32 tot Ah nh ch Af nf cf hnh hnf htot (by omega) (by omega) w' r r2).mono fun e w'' q => HEX w' e w'' q
  obtain ⟨sa, sb, HS1, HS2⟩ := pis_size ms Am nm cm z (by omega) hnm (by omega)
  have HP := fun t' Bh lh dh Bf lf df w' => PlainL t' Bh lh dh Bf lf df w'
  have HT1 := fun w' => TreeL tot Ah nh ch Af nf cf w'
  have HSM := fun Bh Bf Dh Df dh df eh ef w' r1 r2 r3 r4 => SameT bh bh32 bf bt Bh bh.length dh Bf bf.length df Dh eh Df ef rfl bhl rfl w' r1 r2 r3 r4
  have HM := fun B1 B2 c1 c2 w' r1 r2 => MatchesR ml ml32 ml.length rfl mll B1 B2 c1 c2 w' r1 r2
  have HML := fun B1 c1 w' r1 => MatchesL ml ml32 ml.length rfl mll B1 c1 w' r1
  obtain ⟨bn, hbn⟩ : ∃ bn, bn = bh.length := ⟨_, rfl⟩
  obtain ⟨fn, hfn⟩ : ∃ fn, fn = bf.length := ⟨_, rfl⟩
  obtain ⟨mn, hmn⟩ : ∃ mn, mn = ml.length := ⟨_, rfl⟩
  rw [← hbn, ← hfn] at HB1 HB2 HSM
  rw [← hmn] at HE1 HE2 HM HML
  have xv : (x.map bv).length = 32 := by rw [List.length_map, x32]
  have xone : (x.map bv).all (·.oneCell') = true := List.all_eq_true.2 (bv_one x)
  clear HEX
  replace HB1 := Lib.hid HB1
  replace HB2 := Lib.hid HB2
  replace HE1 := Lib.hid HE1
  replace HE2 := Lib.hid HE2
  replace HS1 := Lib.hid HS1
  replace HS2 := Lib.hid HS2
  replace HP := Lib.hid HP
  replace HT1 := Lib.hid HT1
  replace HSM := Lib.hid HSM
  replace HM := Lib.hid HM
  replace HML := Lib.hid HML
  replace x32 := Lib.hid x32
  replace xv := Lib.hid xv
  replace xone := Lib.hid xone
  replace hW := Lib.hid hW
  replace hX := Lib.hid hX
  replace hn := Lib.hid hn
  replace hnm := Lib.hid hnm
  replace hnh := Lib.hid hnh
  replace hnf := Lib.hid hnf
  replace hbn := Lib.hid hbn
  replace hfn := Lib.hid hfn
  replace hmn := Lib.hid hmn
  replace ml32 := Lib.hid ml32
  replace bhl := Lib.hid bhl
  replace mll := Lib.hid mll
  go_enter Tryd.func7, Tryd.ntmps7
  go_upto_region 1 with fail
  rw [← hX.out]
  rw [show w.alloc (.cells (trc tot Ah nh ch Af nf cf).toArray 26) = W from hW.out.symm]
  go_upto_region 4 with (go_at_call 9; refine (HA.out).mono ?_; rintro e w1 ⟨rfl, b1⟩; have c1 := (aX.below b1).cell 1 _ rfl; have c2 := (aX.below b1).cell 2 _ rfl)
  have a1 := aX.below b1
  have bw1 := bW.trans (b1.mono bW.size)
  clear c1 c2 b1 bW aX
  go_upto_region 5 with (first
    | (go_at_call 13; refine (HB1.out w1 (hr.below bw1) (hrm.below bw1) (hT.below bw1)).mono ?_; rintro e w2 ⟨b2, A1, c1, F1, f1, rfl, rA1, rF1⟩)
    | ((with_reducible refine wpList_storeF 34 ((Below.refl w2.heap.size w2).alloc (Nat.le_refl _) _) (heap_alloc_new _ _) (Nat.le_refl _) (trc bt A1 bn c1 F1 fn f1) ?_ ?_ 3 rfl ?_ ?_ ?_ ?_); rfl; rfl; kernel_rfl; rfl; rfl; intro w3 y1 d1 k1 z1; clear k1 z1))
  have bw2 := bw1.trans (b2.mono bw1.size)
  replace a1 := a1.below b2
  clear bw1 b2 HB1
  have bw3 := bw2.trans (d1.mono bw2.size)
  obtain ⟨Y1, hY1⟩ : ∃ Y1, Y1 = w2.heap.size := ⟨_, rfl⟩
  rw [← hY1] at y1 ⊢
  replace hY1 := Lib.hid hY1
  replace a1 := a1.below d1
  replace rA1 := rA1.below d1
  replace rF1 := rF1.below d1
  clear d1 bw2
  go_upto_region 6 with (first
    | (go_at_call 14; refine (HB2.out w3 (hr.below bw3) (hrm.below bw3)).mono ?_; rintro e w4 ⟨b4, A2, c2, F2, f2, rfl, rA2, rF2⟩)
    | ((with_reducible refine wpList_storeF 26 ((Below.refl w4.heap.size w4).alloc (Nat.le_refl _) _) (heap_alloc_new _ _) (Nat.le_refl _) (trc bt A2 bn c2 F2 fn f2) ?_ ?_ 3 rfl ?_ ?_ ?_ ?_); rfl; rfl; kernel_rfl; rfl; rfl; intro w5 y2 d2 k2 z2; clear k2 z2))
  have bw4 := bw3.trans (b4.mono bw3.size)
  replace a1 := a1.below b4
  replace y1 := y1.below b4
  replace rA1 := rA1.below b4
  replace rF1 := rF1.below b4
  clear bw3 b4 HB2
  have bw5 := bw4.trans (d2.mono bw4.size)
  obtain ⟨Y2, hY2⟩ : ∃ Y2, Y2 = w4.heap.size := ⟨_, rfl⟩
  rw [← hY2] at y2 ⊢
  replace hY2 := Lib.hid hY2
  replace a1 := a1.below d2
  replace y1 := y1.below d2
  replace rA1 := rA1.below d2
  replace rF1 := rF1.below d2
  replace rA2 := rA2.below d2
  replace rF2 := rF2.below d2
  clear d2 bw4
  go_upto_region 7 with (first
    | ((with_reducible refine wpList_loadF 26 a1 ?_ _ 3 ?_ Tryd.underlying26 ?_ ?_ ?_); rfl; rfl; rfl; kernel_rfl)
    | (go_at_call 11; refine (HT1.out w5).mono ?_; rintro e w6 ⟨rfl, b6⟩; have bw6 := bw5.trans (b6.mono bw5.size))
    | (go_at_call 10; refine (HE1.out w6 (hrh.below bw6) (hrf.below bw6) (hT.below bw6)).mono ?_; rintro e w7 ⟨b7, M1, m1, rfl, rM1⟩)
    | ((with_reducible refine wpList_storeF 28 ((Below.refl w7.heap.size w7).alloc (Nat.le_refl _) _) (heap_alloc_new _ _) (Nat.le_refl _) (x.map bv) ?_ ?_ 32 xv.out ?_ ?_ ?_ ?_); rfl; rfl; kernel_rfl; rfl; exact xone.out; intro w8 y3 d3 k3 z3; clear k3 z3))
  have b57 := b6.trans (b7.mono b6.size)
  have bw7 := bw6.trans (b7.mono bw6.size)
  replace a1 := a1.below b57
  replace y1 := y1.below b57
  replace y2 := y2.below b57
  replace rA1 := rA1.below b57
  replace rF1 := rF1.below b57
  replace rA2 := rA2.below b57
  replace rF2 := rF2.below b57
  clear bw6 bw5 b57 b6 b7 HE1 HT1
  have bw8 := bw7.trans (d3.mono bw7.size)
  obtain ⟨Y3, hY3⟩ : ∃ Y3, Y3 = w7.heap.size := ⟨_, rfl⟩
  rw [← hY3] at y3 ⊢
  replace hY3 := Lib.hid hY3
  replace a1 := a1.below d3
  replace y1 := y1.below d3
  replace y2 := y2.below d3
  replace rA1 := rA1.below d3
  replace rF1 := rF1.below d3
  replace rA2 := rA2.below d3
  replace rF2 := rF2.below d3
  replace rM1 := rM1.below d3
  clear d3 bw7
  go_upto_region 8 with (first
    | ((with_reducible refine wpList_loadF 26 a1 ?_ _ 3 ?_ Tryd.underlying26 ?_ ?_ ?_); rfl; rfl; rfl; kernel_rfl)
    | (go_at_call 15; refine (HE2.out w8 (hrh.below bw8) (hrf.below bw8)).mono ?_; rintro e w9 ⟨b9, M2, m2, rfl, rM2⟩)
    | ((with_reducible refine wpList_storeF 28 ((Below.refl w9.heap.size w9).alloc (Nat.le_refl _) _) (heap_alloc_new _ _) (Nat.le_refl _) (x.map bv) ?_ ?_ 32 xv.out ?_ ?_ ?_ ?_); rfl; rfl; kernel_rfl; rfl; exact xone.out; intro w10 y4 d4 k4 z4; clear k4 z4))
  have bw9 := bw8.trans (b9.mono bw8.size)
  replace y1 := y1.below b9
  replace y2 := y2.below b9
  replace y3 := y3.below b9
  replace rA1 := rA1.below b9
  replace rF1 := rF1.below b9
  replace rA2 := rA2.below b9
  replace rF2 := rF2.below b9
  replace rM1 := rM1.below b9
  clear bw8 b9 HE2 a1
  have bw10 := bw9.trans (d4.mono bw9.size)
  obtain ⟨Y4, hY4⟩ : ∃ Y4, Y4 = w9.heap.size := ⟨_, rfl⟩
  rw [← hY4] at y4 ⊢
  replace hY4 := Lib.hid hY4
  replace y1 := y1.below d4
  replace y2 := y2.below d4
  replace y3 := y3.below d4
  replace rA1 := rA1.below d4
  replace rF1 := rF1.below d4
  replace rA2 := rA2.below d4
  replace rF2 := rF2.below d4
  replace rM1 := rM1.below d4
  replace rM2 := rM2.below d4
  clear d4 bw9
  go_upto_region 10 with (first
    | (go_at_call 16; refine (HS1.out w10 (hrm.below bw10)).mono ?_; rintro e w11 ⟨rfl, b11⟩; have bw11 := bw10.trans (b11.mono bw10.size))
    | (go_at_call 17; refine (HS2.out w11 (hrm.below bw11)).mono ?_; rintro e w12 ⟨rfl, b12⟩; have bw12 := bw11.trans (b12.mono bw11.size)))
  have b13 := b11.trans (b12.mono b11.size)
  replace y1 := y1.below b13
  replace y2 := y2.below b13
  replace y3 := y3.below b13
  replace y4 := y4.below b13
  replace rA1 := rA1.below b13
  replace rF1 := rF1.below b13
  replace rA2 := rA2.below b13
  replace rF2 := rF2.below b13
  replace rM1 := rM1.below b13
  replace rM2 := rM2.below b13
  clear b11 b12 b13 bw11 bw10 HS1 HS2
  have H1 : ∀ w', Ext w12.drew w' → Below w12.heap.size w12 w' := fun w' hE => hE.drew
  refine wp_region_rel [(19, fun v w' => ∃ B cb, v = .slice B mn cb ∧ Rd w' B (mlc ml))] Ext (by kernel_rfl) (by kernel_rfl) (by kernel_rfl) Ext.refl Ext.trans (by
    intro p hp v w w' hR
    simp only [List.mem_singleton] at hp
    subst hp
    rintro ⟨B, cb, e, h⟩
    exact ⟨B, cb, e, h.below hR⟩) ?_
  refine relMove Ext.refl rfl rfl rfl rfl _ (.inl rfl) (by conv => lhs; whnf) (by simp only [List.set_cons_succ, List.set_cons_zero]; rfl) ?_
  refine relMove Ext.refl rfl rfl rfl rfl _ (.inl rfl) (by conv => lhs; whnf) (by simp only [List.set_cons_succ, List.set_cons_zero]; rfl) ?_
  refine relPure Ext.refl rfl rfl rfl rfl (c := .agg (trc bt A1 bn c1 F1 fn f1).toArray) (fun w hw => exec_loadAv (y1.below hw.drew) _ _ rfl rfl _ 3 rfl Tryd.underlying34 rfl (by kernel_rfl)) (by simp only [List.set_cons_succ, List.set_cons_zero]; rfl) ?_
  refine relCall1 rfl rfl rfl rfl (c := .agg (trc bt A1 bn c1 F1 fn f1).toArray) 19 #[.agg (trc bt A1 bn c1 F1 fn f1).toArray] (fun w => by go_simp) (fun w hw => HP.out bt A1 bn c1 F1 fn f1 w) (by simp only [List.set_cons_succ, List.set_cons_zero]; rfl) ?_
  refine relPure Ext.refl rfl rfl rfl rfl (c := .agg (trc bt A2 bn c2 F2 fn f2).toArray) (fun w hw => exec_loadAv (y2.below hw.drew) _ _ rfl rfl _ 3 rfl Tryd.underlying26 rfl (by kernel_rfl)) (by simp only [List.set_cons_succ, List.set_cons_zero]; rfl) ?_
  refine relCall1 rfl rfl rfl rfl (c := .bool true) 18 #[.agg (trc bt A1 bn c1 F1 fn f1).toArray, .agg (trc bt A2 bn c2 F2 fn f2).toArray] (fun w => by go_simp) (fun w hw => HSM.out A1 F1 A2 F2 c1 f1 c2 f2 w (rA1.below (H1 w hw)) (rF1.below (H1 w hw)) (rA2.below (H1 w hw)) (rF2.below (H1 w hw))) (by simp only [List.set_cons_succ, List.set_cons_zero]; rfl) ?_
  refine relPick Ext.refl rfl rfl rfl rfl _ _ _ rfl rfl (c := .bool true) rfl (by simp only [List.set_cons_succ, List.set_cons_zero]; rfl) ?_
  refine relMove Ext.refl rfl rfl rfl rfl _ (.inl rfl) (by conv => lhs; whnf) (by simp only [List.set_cons_succ, List.set_cons_zero]; rfl) ?_
  refine relMove Ext.refl rfl rfl rfl rfl _ (.inl rfl) (by conv => lhs; whnf) (by simp only [List.set_cons_succ, List.set_cons_zero]; rfl) ?_
  refine relMove Ext.refl rfl rfl rfl rfl _ (.inl rfl) (by conv => lhs; whnf) (by simp only [List.set_cons_succ, List.set_cons_zero]; rfl) ?_
  refine relPure Ext.refl rfl rfl rfl rfl (c := .bool true) (fun w hw => by go_simp; first | done | rfl) (by simp only [List.set_cons_succ, List.set_cons_zero]; rfl) ?_
  refine relPick Ext.refl rfl rfl rfl rfl _ _ _ rfl rfl (c := .bool true) rfl (by simp only [List.set_cons_succ, List.set_cons_zero]; rfl) ?_
  refine relMove Ext.refl rfl rfl rfl rfl _ (.inl rfl) (by conv => lhs; whnf) (by simp only [List.set_cons_succ, List.set_cons_zero]; rfl) ?_
  refine relPure Ext.refl rfl rfl rfl rfl (c := .agg (hcs x)) (fun w hw => exec_loadAv (y3.below hw.drew) _ _ rfl rfl _ 32 xv.out Tryd.underlying28 rfl (by kernel_rfl)) (by simp only [List.set_cons_succ, List.set_cons_zero]; rfl) ?_
  refine relPure Ext.refl rfl rfl rfl rfl (c := .agg (hcs x)) (fun w hw => exec_loadAv (y4.below hw.drew) _ _ rfl rfl _ 32 xv.out Tryd.underlying28 rfl (by kernel_rfl)) (by simp only [List.set_cons_succ, List.set_cons_zero]; rfl) ?_
  refine relPure Ext.refl rfl rfl rfl rfl (c := .bool true) (fun w hw => exec_eqlHH x x32.out rfl rfl rfl) (by simp only [List.set_cons_succ, List.set_cons_zero]; rfl) ?_
  refine relPick Ext.refl rfl rfl rfl rfl _ _ _ rfl rfl (c := .bool true) rfl (by simp only [List.set_cons_succ, List.set_cons_zero]; rfl) ?_
  refine relMove Ext.refl rfl rfl rfl rfl _ (.inl rfl) (by conv => lhs; whnf) (by simp only [List.set_cons_succ, List.set_cons_zero]; rfl) ?_
  refine relMove Ext.refl rfl rfl rfl rfl _ (.inl rfl) (by conv => lhs; whnf) (by simp only [List.set_cons_succ, List.set_cons_zero]; rfl) ?_
  refine relWord _ rfl (fun w hw => fill_none rfl (relOp_yes rfl (relRes_enter 21 #[.slice M1 mn m1] (by go_simp) ((HML.out M1 m1 w (rM1.below (H1 w hw))).mono ?_)))) ?_
  · rintro e w' ⟨B, cb, rfl, hB, hb⟩
    exact ⟨_, rfl, hb, B, cb, rfl, hB⟩
  refine relMove Ext.refl rfl rfl rfl rfl _ (.inl rfl) (by conv => lhs; whnf) (by simp only [List.set_cons_succ, List.set_cons_zero]; rfl) ?_
  refine relOn rfl rfl (c := .bool true) (fun w hw => fill_take rfl rfl fun u hu => fill_end ?_) (by simp only [List.set_cons_succ, List.set_cons_zero]; rfl) ?_
  · obtain ⟨B, cb, rfl, hB⟩ := hu
    simp only [List.set_cons_succ, List.set_cons_zero]
    refine relOp_yes rfl (relRes_enter 20 #[.slice B mn cb, .slice M2 mn m2] (by go_simp) ?_)
    exact (HM.out B M2 cb m2 w hB (rM2.below (H1 w hw))).mono fun _ _ h => ⟨_, h.1, h.2, rfl⟩
  refine relPick Ext.refl rfl rfl rfl rfl _ _ _ rfl rfl (c := .bool true) rfl (by simp only [List.set_cons_succ, List.set_cons_zero]; rfl) ?_
  refine relMove Ext.refl rfl rfl rfl rfl _ (.inl rfl) (by conv => lhs; whnf) (by simp only [List.set_cons_succ, List.set_cons_zero]; rfl) ?_
  refine relMove Ext.refl rfl rfl rfl rfl _ (.inl rfl) (by conv => lhs; whnf) (by simp only [List.set_cons_succ, List.set_cons_zero]; rfl) ?_
  refine relMove Ext.refl rfl rfl rfl rfl _ (.inl rfl) (by conv => lhs; whnf) (by simp only [List.set_cons_succ, List.set_cons_zero]; rfl) ?_
  refine relPure Ext.refl rfl rfl rfl rfl (c := .bool true) (fun w hw => by go_simp; first | done | rfl) (by simp only [List.set_cons_succ, List.set_cons_zero]; rfl) ?_
  refine relPick Ext.refl rfl rfl rfl rfl _ _ _ rfl rfl (c := .bool true) rfl (by simp only [List.set_cons_succ, List.set_cons_zero]; rfl) ?_
  refine relMove Ext.refl rfl rfl rfl rfl _ (.inl rfl) (by conv => lhs; whnf) (by simp only [List.set_cons_succ, List.set_cons_zero]; rfl) ?_
  refine relMove Ext.refl rfl rfl rfl rfl _ (.inl rfl) (by conv => lhs; whnf) (by simp only [List.set_cons_succ, List.set_cons_zero]; rfl) ?_
  refine relMove Ext.refl rfl rfl rfl rfl _ (.inl rfl) (by conv => lhs; whnf) (by simp only [List.set_cons_succ, List.set_cons_zero]; rfl) ?_
  refine relPure Ext.refl rfl rfl rfl rfl (c := .bool true) (fun w hw => by go_simp; first | done | rfl) (by simp only [List.set_cons_succ, List.set_cons_zero]; rfl) ?_
  refine relPick Ext.refl rfl rfl rfl rfl _ _ _ rfl rfl (c := .bool true) rfl (by simp only [List.set_cons_succ, List.set_cons_zero]; rfl) ?_
  refine relMove Ext.refl rfl rfl rfl rfl _ (.inl rfl) (by conv => lhs; whnf) (by simp only [List.set_cons_succ, List.set_cons_zero]; rfl) ?_
  refine relMove Ext.refl rfl rfl rfl rfl _ (.inl rfl) (by conv => lhs; whnf) (by simp only [List.set_cons_succ, List.set_cons_zero]; rfl) ?_
  refine relMove Ext.refl rfl rfl rfl rfl _ (.inl rfl) (by conv => lhs; whnf) (by simp only [List.set_cons_succ, List.set_cons_zero]; rfl) ?_
  refine relPure Ext.refl rfl rfl rfl rfl (c := .bool true) (fun w hw => by go_simp; first | done | rfl) (by simp only [List.set_cons_succ, List.set_cons_zero]; rfl) ?_
  refine relPick Ext.refl rfl rfl rfl rfl _ _ _ rfl rfl (c := .bool true) rfl (by simp only [List.set_cons_succ, List.set_cons_zero]; rfl) ?_
  refine relMove Ext.refl rfl rfl rfl rfl _ (.inr rfl) (by conv => lhs; whnf) (by simp only [List.set_cons_succ, List.set_cons_zero]; rfl) ?_
  refine relEnd fun w13 hw13 => fill_take rfl rfl fun u hu => fill_end ?_
  simp only [List.set_cons_succ, List.set_cons_zero]
  have e13 := hw13.drew
  go_wp2
  go_ret
  exact ⟨rfl, bw12.trans (e13.mono bw12.size)⟩
theorem law_PartialIs (hs : List (List UInt8)) (h32 : All32 hs) (ms : List Bool) (A Am : Option Addr) (n c nm cm : Nat) (hn : hs.length = n) (hnm : ms.length = nm) (tot : Nat) (gs : List (List UInt8)) (fl : List UInt8) (Ah Af : Option Addr) (nh ch nf cf : Nat) (htot : tot < 4294967296) (hnh : gs.length = nh) (g32 : All32 gs) (hnf : fl.length = nf) (z : Int)
    (w : World) (hr : Rd w A (hcl hs)) (hrm : Rd w Am (ms.map Value.bool)) (hrh : Rd w Ah (hcl gs)) (hrf : Rd w Af (fl.map bv)) (hT : Tabs w) : Calls Tryd.prog 7 #[.slice A n c, .slice Am nm cm, .agg (trc tot Ah nh ch Af nf cf).toArray, .int .i64 z] w fun e w' => e = .returned (.bool true) ∧ Below w.heap.size w w' := by
  by_cases h1 : 40 < n
  · exact pis_0 A Am n c nm cm tot Ah Af nh ch nf cf z h1 w hT
  by_cases h2 : 60 < nm
  · exact pis_1 A Am n c nm cm tot Ah Af nh ch nf cf z h1 h2 w hT
  by_cases h3 : 60 < nh
  · exact pis_2 A Am n c nm cm tot Ah Af nh ch nf cf z h1 h2 h3 w hT
  by_cases h4 : 60 < nf
  · exact pis_3 A Am n c nm cm tot Ah Af nh ch nf cf z h1 h2 h3 h4 w hT
  by_cases h5 : 60 < z
  · exact pis_4 A Am n c nm cm tot Ah Af nh ch nf cf z h1 h2 h3 h4 h5 w hT
  exact pis_5 hs h32 ms A Am n c nm cm hn hnm tot gs fl Ah Af nh ch nf cf htot hnh g32 hnf z h1 h2 h3 h4 h5 w hr hrm hrh hrf hT
end Go.Proofs.YtmdllemgjhkphaaDoor
