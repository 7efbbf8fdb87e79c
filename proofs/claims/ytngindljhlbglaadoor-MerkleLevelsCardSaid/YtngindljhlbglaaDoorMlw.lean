/- florinlaw10.MerkleLevels: the walk. -/
import Derived.Test.YtngindljhlbglaaDoorSam
import Derived.Test.YtngindljhlbglaaDoorMlp
import Derived.Test.YtngindljhlbglaaDoorMal
namespace Go.Proofs.YtngindljhlbglaaDoor
open Go.RowKit
set_option maxRecDepth 10000 in
set_option maxHeartbeats 1000000 in
theorem levels_early (l : List (List UInt8)) (h32 : All32 l) (n : Nat) (hn : l.length = n) (h : 60 < n ∨ n = 0) (A : Option Addr) (c : Nat) (w : World) (hr : Rd w A (hcl l)) (ht : Tabs w) :
    Calls Tryd.prog 6 #[.slice A n c] w fun e w' => e = .returned (.bool true) ∧ Below w.heap.size w w' := by
  have HA := Lib.hid (awake10 w ht)
  by_cases h60 : 60 < n
  · have t1 : decide ((60 : Int) < (n : Int)) = true := by simp; omega
    go_enter Tryd.func6, Tryd.ntmps6
    go_wp2_with (go_at_call 9; refine (HA.out).mono ?_; rintro e w1 ⟨rfl, b1⟩)
    go_ret
    exact ⟨rfl, b1⟩
  · obtain rfl : n = 0 := by omega
    obtain rfl : l = [] := List.eq_nil_of_length_eq_zero hn
    have HL := Lib.hid (fun w hr ht => Levels [] h32 A 0 c hn w hr ht)
    rw [show mLv [] = [] from rfl, show ([] : List (List (List UInt8))).length = 0 from rfl] at HL
    go_enter Tryd.func6, Tryd.ntmps6
    go_upto_region 4 with (go_at_call 9; refine (HA.out).mono ?_; rintro e w1 ⟨rfl, b1⟩)
    go_wp2_with fail
    refine (HL.out w1 (hr.below b1) (ht.below b1)).mono ?_
    rintro e w2 ⟨v, ps, rfl, ob, lv2, _, b2⟩
    obtain ⟨Av, cv, rfl, hcv, _⟩ := own_form ob
    replace b2 := b1.trans (b2.mono b1.size)
    go_wp2
    go_ret
    exact ⟨rfl, b2⟩

set_option maxRecDepth 10000 in
set_option maxHeartbeats 4000000 in
theorem levels_ok (l : List (List UInt8)) (h32 : All32 l) (n : Nat) (hn : l.length = n) (h2 : 0 < n) (h60 : n ≤ 60) (A : Option Addr) (c : Nat) (w : World) (hr : Rd w A (hcl l)) (ht : Tabs w) :
    Calls Tryd.prog 6 #[.slice A n c] w fun e w' => e = .returned (.bool true) ∧ Below w.heap.size w w' := by
  have hz := zeros_32
  have hzl : (List.replicate 32 (0 : UInt8)).length = 32 := by simp
  obtain ⟨zs, hzs⟩ : ∃ zs : List UInt8, zs = List.replicate 32 0 := ⟨_, rfl⟩
  rw [← hzs] at hz hzl
  clear hzs
  replace hzl := Lib.hid hzl
  have HA := Lib.hid (awake10 w ht)
  have t1 : decide ((60 : Int) < (n : Int)) = false := by simp; omega
  have t2 : ((n : Int) == 0) = false := by simp; omega
  obtain ⟨K, k1, k2, k3, k4, k5, k6⟩ := levels_laws l n hn h2 h60
  have hlm := fun x (hx : x ∈ mLv l) => (mLv_mem l h32 x hx).1
  have HL := Lib.hid (fun w hr ht => Levels l h32 A n c hn w hr ht)
  have HH := Lib.hid (fun w => Height_levels l n hn h2 (by omega) w)
  have R := Lib.hid (Root l h32 A n c hn (by omega))
  have hrl := mRoot_length l h32
  have HS := Lib.hid (fun (Bx : Option Addr) (cx : Nat) w ra rb => SameH l l h32 h32 Bx A n n cx c hn hn (by omega) (by omega) w ra rb)
  rw [beq_self_eq_true] at HS
  rw [k1, Nat.add_sub_cancel] at HH
  obtain ⟨q, hq⟩ : ∃ q, q = K + 1 := ⟨_, rfl⟩
  rw [← hq] at k1
  have t3 : ((q : Int) != (K : Int) + 1) = false := by rw [hq]; simp
  have q0 : 0 < q := by omega
  have q13 : q ≤ 13 := by omega
  rw [k1] at HL
  generalize mAlike (mLv l) = al at R
  generalize mRootOf (mLv l) = r at *
  generalize mLv l = lv at *
  have heq : ∀ w, (binOp .eql 25 (.agg (hcs r)) (.agg (hcs r))).run Tryd.prog w = .ok (.bool true) w := fun w => by
    rw [eqlH r r hrl hrl, beq_self_eq_true]
  replace hrl := Lib.hid hrl
  replace hn := Lib.hid hn
  replace k1 := Lib.hid k1
  replace k3 := Lib.hid k3
  replace k4 := Lib.hid k4
  replace k5 := Lib.hid k5
  replace k6 := Lib.hid k6
  replace hq := Lib.hid hq
  replace hlm := Lib.hid hlm
  go_enter Tryd.func6, Tryd.ntmps6
  go_upto_region 4 with (go_at_call 9; refine (HA.out).mono ?_; rintro e w1 ⟨rfl, b1⟩)
  go_wp2_with fail
  refine (HL.out w1 (hr.below b1) (ht.below b1)).mono ?_
  rintro e w2 ⟨v, ps, rfl, ob, lv2, _, b2⟩
  obtain ⟨Av, cv, rfl, hcv, _⟩ := own_form ob
  replace b2 := b1.trans (b2.mono b1.size)
  obtain ⟨bb, off, rfl⟩ := (own_rd ob).someA (scl_ne ps lv lv2.1 (by rw [k1.out]; exact q0))
  have HX := Lib.hid (fun (h : Nat) (x : List (List UInt8)) (hx : lv[h]? = some x) w' (hE : Below w2.heap.size w2 w') => LvAt.cellOf (own_rd (own_below ob hE)) (lv2.below hE) h x hx)
  have HB := Lib.hid (fun (h : Nat) (x : List (List UInt8)) (hx : lv[h]? = some x) => (lv2.2 h (ps.getD h (none, 0)) x (by have hlt := (List.getElem?_eq_some_iff.1 hx).1; rw [List.getD_eq_getElem?_getD, List.getElem?_eq_getElem (by rw [lv2.1]; exact hlt)]; rfl) hx).2)
  clear lv2 ob
  obtain ⟨c0, r0⟩ := HX.out 0 l k3.out w2 (Below.refl _ _)
  obtain ⟨A0, hA0⟩ : ∃ A0, A0 = (ps.getD 0 (none, 0)).1 := ⟨_, rfl⟩
  obtain ⟨C0, hC0⟩ : ∃ C0, C0 = (ps.getD 0 (none, 0)).2 := ⟨_, rfl⟩
  rw [← hA0, ← hC0, hn.out, Nat.add_zero] at c0
  rw [← hA0] at r0
  clear hA0 hC0
  go_upto_region 9 with (first
    | (go_at_call 12; refine (HH.out _).mono ?_; rintro e w' ⟨rfl, hw⟩; obtain rfl := hw.symm)
    | (go_at_call 15; refine (HS.out A0 C0 w2 r0 (hr.below b2)).mono ?_; rintro e w3 ⟨rfl, b3⟩))
  clear c0 r0
  have b3' := b2.trans (b3.mono b2.size)
  go_wp2_with fail
  refine (R.out w3 (hr.below b3') (ht.below b3')).mono ?_
  rintro e w4 ⟨rfl, b4⟩
  have b24 := b3.trans (b4.mono b3.size)
  clear b3 b4 b3'
  have b4 := b2.trans (b24.mono b2.size)
  go_upto_region 10 with (refine wpList_storeAv ((Below.refl w4.heap.size w4).alloc (Nat.le_refl _) _) (heap_alloc_new _ _) (Nat.le_refl _) rfl _ _ _ rfl rfl (r.map bv) rfl 32 (by rw [List.length_map, hrl.out]) (by kernel_rfl) (by rw [List.size_toArray, List.length_map]; exact hzl.out) (by simp [Value.oneCell']) ?_; intro w5 a7 b45 k5' s5; clear k5'; replace s5 := Lib.hid s5)
  have b25 := b24.trans (b45.mono b24.size)
  have b5 := b4.trans (b45.mono b4.size)
  clear b24 b4 b45
  go_wp2
  go_loopw [7, 8, 9, 10] (fun i _ _ _ wr => ∃ h : Nat, h ≤ q ∧ i = .int .i64 (h : Int) ∧ Below w5.heap.size w5 wr) (fun i _ _ _ _ => q - (intOf i).toNat)
  case atStart => exact ⟨0, by omega, rfl, Below.refl _ _⟩
  case round =>
    obtain ⟨h, hh, rfl, bw⟩ := hrel
    by_cases hlt : h < q
    · have t4 : decide ((h : Int) < (q : Int)) = true := by simp; omega
      obtain ⟨x, hx⟩ : ∃ x, lv[h]? = some x := ⟨_, List.getElem?_eq_getElem (by rw [k1.out]; exact hlt)⟩
      obtain ⟨hwd, hx0, hx60⟩ := k4.out h x hx
      have hx32 := hlm.out x (List.mem_of_getElem? hx)
      obtain ⟨nx, hnx⟩ : ∃ nx, x.length = nx := ⟨_, rfl⟩
      obtain ⟨Ax, hAx⟩ : ∃ Ax, Ax = (ps.getD h (none, 0)).1 := ⟨_, rfl⟩
      obtain ⟨cx, hcx⟩ : ∃ cx, cx = (ps.getD h (none, 0)).2 := ⟨_, rfl⟩
      have HC : ∀ w', Below w2.heap.size w2 w' → w'.cell? ⟨bb, off + h, none⟩ = some (.slice Ax nx cx) ∧ Rd w' Ax (hcl x) := fun w' hE => by
        have := HX.out h x hx w' hE
        rw [hnx, ← hAx, ← hcx] at this
        exact this
      have hcap := HB.out h x hx
      rw [hnx, ← hcx] at hcap
      rw [hnx] at hwd hx0 hx60
      have HW := Lib.hid (fun w => Width (n : Int) (h : Int) w)
      rw [hwd] at HW
      replace HC := Lib.hid HC
      replace hnx := Lib.hid hnx
      replace hAx := Lib.hid hAx
      replace hcx := Lib.hid hcx
      replace hwd := Lib.hid hwd
      have hxx := Lib.hid hx
      clear hx
      have n0 : 0 ≤ (h : Int) := by omega
      have n1 : (h : Int) < (q : Int) := by omega
      go_wp2_with fail
      have H1 : ∀ w', Ext wr.drew w' → Below w5.heap.size w5 w' := fun w' hE => bw.trans (hE.drew.mono bw.size)
      have H2 : ∀ w', Below w5.heap.size w5 w' → Below w2.heap.size w2 w' := fun w' hE => b25.trans (hE.mono b25.size)
      refine wp_region_rel [] Ext (by kernel_rfl) (by kernel_rfl) (by kernel_rfl) Ext.refl Ext.trans (by intro p hp; cases hp) ?_
      refine relMove Ext.refl rfl rfl rfl rfl _ (.inl rfl) (by conv => lhs; whnf) (by simp only [List.set_cons_succ, List.set_cons_zero]; rfl) ?_
      refine relMove Ext.refl rfl rfl rfl rfl _ (.inl rfl) (by conv => lhs; whnf) (by simp only [List.set_cons_succ, List.set_cons_zero]; rfl) ?_
      refine relPure Ext.refl rfl rfl rfl rfl (fun w _ => by go_simp; first | done | rfl) (by simp only [List.set_cons_succ, List.set_cons_zero]; rfl) ?_
      refine relPure Ext.refl rfl rfl rfl rfl (c := .slice Ax nx cx) (fun w hw => by have := (HC.out w (H2 w (H1 w hw))).1; go_simp; first | done | rfl) (by simp only [List.set_cons_succ, List.set_cons_zero]; rfl) ?_
      refine relPure Ext.refl rfl rfl rfl rfl (fun w _ => by go_simp; first | done | rfl) (by simp only [List.set_cons_succ, List.set_cons_zero]; rfl) ?_
      refine relMove Ext.refl rfl rfl rfl rfl _ (.inl rfl) (by conv => lhs; whnf) (by simp only [List.set_cons_succ, List.set_cons_zero]; rfl) ?_
      refine relPure Ext.refl rfl rfl rfl rfl (fun w _ => by go_simp; first | done | rfl) (by simp only [List.set_cons_succ, List.set_cons_zero]; rfl) ?_
      refine relMove Ext.refl rfl rfl rfl rfl _ (.inl rfl) (by conv => lhs; whnf) (by simp only [List.set_cons_succ, List.set_cons_zero]; rfl) ?_
      refine relCall1 rfl rfl rfl rfl (c := .int .i64 (nx : Int)) 13 #[.int .i64 (n : Int), .int .i64 (h : Int)] (fun w => by go_simp) (fun w hw => (HW.out w).mono ?_) (by simp only [List.set_cons_succ, List.set_cons_zero]; rfl) ?_
      · rintro e w' ⟨rfl, rfl⟩
        exact ⟨rfl, Ext.refl _⟩
      refine relPure Ext.refl rfl rfl rfl rfl (c := .bool false) (fun w _ => by go_simp; first | done | rfl) (by simp only [List.set_cons_succ, List.set_cons_zero]; rfl) ?_
      refine relEnd fun w6 hw6 => fill_end ?_
      have b56 := H1 w6 hw6
      clear H1 hw6 bw
      obtain ⟨wo, rfl⟩ : ∃ wo : World, wo = wr := ⟨_, rfl⟩
      by_cases hz0 : h = 0
      · subst hz0
        go_wp2
        go_loopw [8, 9, 10] (fun i _ _ wr => i = .int .i64 0 ∧ Below w5.heap.size w5 wr) (fun _ _ _ _ => 0)
        case atStart => exact ⟨rfl, b56⟩
        case round =>
          obtain ⟨rfl, bvw⟩ := hrel
          have c1 := (HC.out wr (H2 wr bvw)).1
          rw [Nat.add_zero] at c1
          have t5 : decide ((0 : Int) < (nx : Int)) = true := by simp; omega
          go_wp2
          refine ⟨⟨1, by omega, by go_num, bvw⟩, ?_⟩
          simp [intOf]; omega
      · obtain ⟨g, hg⟩ : ∃ g, h = g + 1 := ⟨h - 1, by omega⟩
        obtain ⟨y, hy⟩ : ∃ y, lv[g]? = some y := ⟨_, List.getElem?_eq_getElem (by rw [k1.out]; omega)⟩
        obtain ⟨hwy, hy0, hy60⟩ := k4.out g y hy
        obtain ⟨l1, l2, l3⟩ := k5.out g y x hy (by rw [← hg]; exact hxx.out)
        have hy32 := hlm.out y (List.mem_of_getElem? hy)
        obtain ⟨ny, hny⟩ : ∃ ny, y.length = ny := ⟨_, rfl⟩
        obtain ⟨Ay, hAy⟩ : ∃ Ay, Ay = (ps.getD g (none, 0)).1 := ⟨_, rfl⟩
        obtain ⟨cy, hcy⟩ : ∃ cy, cy = (ps.getD g (none, 0)).2 := ⟨_, rfl⟩
        have HD : ∀ w', Below w2.heap.size w2 w' → w'.cell? ⟨bb, off + g, none⟩ = some (.slice Ay ny cy) ∧ Rd w' Ay (hcl y) := fun w' hE => by
          have := HX.out g y hy w' hE
          rw [hny, ← hAy, ← hcy] at this
          exact this
        have hcapy := HB.out g y hy
        rw [hny, ← hcy] at hcapy
        rw [hny] at l1 l2 l3 hy0 hy60
        rw [hnx.out] at l1 l3
        replace l1 : 2 * nx ≤ ny + 1 := by omega
        replace HD := Lib.hid HD
        replace hny := Lib.hid hny
        replace hAy := Lib.hid hAy
        replace hcy := Lib.hid hcy
        replace l3 := Lib.hid l3
        clear hy hwy
        have e1 : IntKind.i64.wrap ((h : Int) - 1) = (h : Int) - 1 := by rw [IntKind.wrap_i64]; omega
        have e2 : 0 ≤ (h : Int) - 1 := by omega
        have e5 : 1 ≤ (h : Int) := by omega
        have e3 : (h : Int) - 1 < (q : Int) := by omega
        have e4 : ((h : Int) - 1).toNat = g := by omega
        replace hg := Lib.hid hg
        go_wp2
        go_loopw [8, 9, 10] (fun i _ _ wr => ∃ k : Nat, k ≤ nx ∧ i = .int .i64 (k : Int) ∧ Below w5.heap.size w5 wr) (fun i _ _ _ => nx - (intOf i).toNat)
        case atStart => exact ⟨0, by omega, rfl, b56⟩
        case round =>
          obtain ⟨k, hk, rfl, bvw⟩ := hrel
          have c1 := (HC.out wr (H2 wr bvw)).1
          have c2 := (HD.out wr (H2 wr bvw)).1
          have t6 : decide ((0 : Int) < (h : Int)) = true := by simp; omega
          by_cases hkl : k < nx
          · have t5 : decide ((k : Int) < (nx : Int)) = true := by simp; omega
            go_upto_region 20 with fail
            all_goals
              obtain ⟨j, hj⟩ : ∃ j, j = min (2 * k + 1) (ny - 1) := ⟨_, rfl⟩
              have hjn : j < ny := by omega
              obtain ⟨z, hz'⟩ : ∃ z, z = x.getD k [] := ⟨_, rfl⟩
              obtain ⟨u, hu⟩ : ∃ u, u = y.getD (2 * k) [] := ⟨_, rfl⟩
              obtain ⟨v, hv⟩ : ∃ v, v = y.getD j [] := ⟨_, rfl⟩
              have hzuv : z = pairB u v := by rw [hz', l3.out k hkl, ← hj, ← hu, ← hv]
              have hz32 : z.length = 32 := by rw [hz']; exact hx32.get _ (by rw [hnx.out]; omega)
              have hu32 : u.length = 32 := by rw [hu]; exact hy32.get _ (by rw [hny.out]; omega)
              have hv32 : v.length = 32 := by rw [hv]; exact hy32.get _ (by rw [hny.out]; omega)
              have HQ := Lib.hid (fun w (ht : Tabs w) => Pair u v hu32 hv32 w ht)
              rw [← hzuv] at HQ
              have heq2 := neqH z z hz32 hz32
              rw [beq_self_eq_true] at heq2
              obtain ⟨bx, ox, hbx⟩ := (HC.out wr (H2 wr bvw)).2.someA (hcl_ne hx32 (by rw [hnx.out]; omega))
              obtain ⟨by', oy, hby⟩ := (HD.out wr (H2 wr bvw)).2.someA (hcl_ne hy32 (by rw [hny.out]; omega))
              subst hbx hby
              have hrz := Lib.hid (fun w' (hE : Below w5.heap.size w5 w') => hz' ▸ (HC.out w' (H2 w' hE)).2.hash hx32 k (by rw [hnx.out]; omega))
              have hru := Lib.hid (fun w' (hE : Below w5.heap.size w5 w') => hu ▸ (HD.out w' (H2 w' hE)).2.hash hy32 (2 * k) (by rw [hny.out]; omega))
              have hrv := Lib.hid (fun w' (hE : Below w5.heap.size w5 w') => hv ▸ (HD.out w' (H2 w' hE)).2.hash hy32 j (by rw [hny.out]; omega))
              replace hz' := Lib.hid hz'
              replace hu := Lib.hid hu
              replace hv := Lib.hid hv
              replace hzuv := Lib.hid hzuv
              have g1 : decide ((ny : Int) ≤ 2 * (k : Int)) = false := by simp; omega
              have m0 : 0 ≤ (k : Int) := by omega
              have m1 : (k : Int) < (nx : Int) := by omega
              have m2 : 0 ≤ 2 * (k : Int) := by omega
              have m3 : 2 * (k : Int) < (ny : Int) := by omega
              have m4 : (2 * (k : Int)).toNat = 2 * k := by omega
              have m5 : 0 ≤ (j : Int) := by omega
              have m6 : (j : Int) < (ny : Int) := by omega
              first | rw [show (if (ny : Int) - 1 < 2 * (k : Int) + 1 then (ny : Int) - 1 else 2 * (k : Int) + 1) = (j : Int) by split <;> omega] | rw [show (ny : Int) - 1 = (j : Int) by omega] | rw [show 2 * (k : Int) + 1 = (j : Int) by omega]
              replace hj := Lib.hid hj
              clear c1 c2
              have H1 : ∀ w', Ext wr.drew w' → Below w5.heap.size w5 w' := fun w' hE => bvw.trans (hE.drew.mono bvw.size)
              refine wp_region_rel [] Ext (by kernel_rfl) (by kernel_rfl) (by kernel_rfl) Ext.refl Ext.trans (by intro p hp; cases hp) ?_
              refine relMove Ext.refl rfl rfl rfl rfl _ (.inl rfl) (by conv => lhs; whnf) (by simp only [List.set_cons_succ, List.set_cons_zero]; rfl) ?_
              refine relMove Ext.refl rfl rfl rfl rfl _ (.inl rfl) (by conv => lhs; whnf) (by simp only [List.set_cons_succ, List.set_cons_zero]; rfl) ?_
              refine relMove Ext.refl rfl rfl rfl rfl _ (.inl rfl) (by conv => lhs; whnf) (by simp only [List.set_cons_succ, List.set_cons_zero]; rfl) ?_
              refine relPure Ext.refl rfl rfl rfl rfl (fun w _ => by go_simp; first | done | rfl) (by simp only [List.set_cons_succ, List.set_cons_zero]; rfl) ?_
              refine relPure Ext.refl rfl rfl rfl rfl (fun w _ => by go_simp; first | done | rfl) (by simp only [List.set_cons_succ, List.set_cons_zero]; rfl) ?_
              refine relPure Ext.refl rfl rfl rfl rfl (c := .slice (some ⟨by', oy, none⟩) ny cy) (fun w hw => by have := (HD.out w (H2 w (H1 w hw))).1; go_simp; first | done | rfl) (by simp only [List.set_cons_succ, List.set_cons_zero]; rfl) ?_
              refine relPure Ext.refl rfl rfl rfl rfl (fun w _ => by go_simp; first | done | rfl) (by simp only [List.set_cons_succ, List.set_cons_zero]; rfl) ?_
              refine relPure Ext.refl rfl rfl rfl rfl (c := .bool false) (fun w _ => by go_simp; first | done | rfl) (by simp only [List.set_cons_succ, List.set_cons_zero]; rfl) ?_
              refine relMove Ext.refl rfl rfl rfl rfl _ (.inl rfl) (by conv => lhs; whnf) (by simp only [List.set_cons_succ, List.set_cons_zero]; rfl) ?_
              refine relMove Ext.refl rfl rfl rfl rfl _ (.inl rfl) (by conv => lhs; whnf) (by simp only [List.set_cons_succ, List.set_cons_zero]; rfl) ?_
              refine relMove Ext.refl rfl rfl rfl rfl _ (.inl rfl) (by conv => lhs; whnf) (by simp only [List.set_cons_succ, List.set_cons_zero]; rfl) ?_
              refine relPure Ext.refl rfl rfl rfl rfl (fun w _ => by go_simp; first | done | rfl) (by simp only [List.set_cons_succ, List.set_cons_zero]; rfl) ?_
              refine relPure Ext.refl rfl rfl rfl rfl (c := .slice (some ⟨bx, ox, none⟩) nx cx) (fun w hw => by have := (HC.out w (H2 w (H1 w hw))).1; go_simp; first | done | rfl) (by simp only [List.set_cons_succ, List.set_cons_zero]; rfl) ?_
              refine relMove Ext.refl rfl rfl rfl rfl _ (.inl rfl) (by conv => lhs; whnf) (by simp only [List.set_cons_succ, List.set_cons_zero]; rfl) ?_
              refine relPure Ext.refl rfl rfl rfl rfl (fun w _ => by go_simp; first | done | rfl) (by simp only [List.set_cons_succ, List.set_cons_zero]; rfl) ?_
              refine relPure Ext.refl rfl rfl rfl rfl (c := .agg (hcs z)) (fun w hw => exec_load_mid _ _ rfl bx (ox + k * 32) rfl (z.map bv) _ (hrz.out w (H1 w hw)) Tryd.underlying25 rfl (by rw [List.length_map, hz32]; kernel_rfl)) (by simp only [List.set_cons_succ, List.set_cons_zero]; rfl) ?_
              refine relMove Ext.refl rfl rfl rfl rfl _ (.inl rfl) (by conv => lhs; whnf) (by simp only [List.set_cons_succ, List.set_cons_zero]; rfl) ?_
              refine relMove Ext.refl rfl rfl rfl rfl _ (.inl rfl) (by conv => lhs; whnf) (by simp only [List.set_cons_succ, List.set_cons_zero]; rfl) ?_
              refine relPure Ext.refl rfl rfl rfl rfl (fun w _ => by go_simp; first | done | rfl) (by simp only [List.set_cons_succ, List.set_cons_zero]; rfl) ?_
              refine relPure Ext.refl rfl rfl rfl rfl (fun w _ => by go_simp; first | done | rfl) (by simp only [List.set_cons_succ, List.set_cons_zero]; rfl) ?_
              refine relPure Ext.refl rfl rfl rfl rfl (c := .slice (some ⟨by', oy, none⟩) ny cy) (fun w hw => by have := (HD.out w (H2 w (H1 w hw))).1; go_simp; first | done | rfl) (by simp only [List.set_cons_succ, List.set_cons_zero]; rfl) ?_
              refine relMove Ext.refl rfl rfl rfl rfl _ (.inl rfl) (by conv => lhs; whnf) (by simp only [List.set_cons_succ, List.set_cons_zero]; rfl) ?_
              refine relPure Ext.refl rfl rfl rfl rfl (fun w _ => by go_simp; first | done | rfl) (by simp only [List.set_cons_succ, List.set_cons_zero]; rfl) ?_
              refine relPure Ext.refl rfl rfl rfl rfl (c := .agg (hcs u)) (fun w hw => exec_load_mid _ _ rfl by' (oy + 2 * k * 32) rfl (u.map bv) _ (hru.out w (H1 w hw)) Tryd.underlying25 rfl (by rw [List.length_map, hu32]; kernel_rfl)) (by simp only [List.set_cons_succ, List.set_cons_zero]; rfl) ?_
              refine relMove Ext.refl rfl rfl rfl rfl _ (.inl rfl) (by conv => lhs; whnf) (by simp only [List.set_cons_succ, List.set_cons_zero]; rfl) ?_
              refine relMove Ext.refl rfl rfl rfl rfl _ (.inl rfl) (by conv => lhs; whnf) (by simp only [List.set_cons_succ, List.set_cons_zero]; rfl) ?_
              refine relPure Ext.refl rfl rfl rfl rfl (fun w _ => by go_simp; first | done | rfl) (by simp only [List.set_cons_succ, List.set_cons_zero]; rfl) ?_
              refine relPure Ext.refl rfl rfl rfl rfl (fun w _ => by go_simp; first | done | rfl) (by simp only [List.set_cons_succ, List.set_cons_zero]; rfl) ?_
              refine relPure Ext.refl rfl rfl rfl rfl (c := .slice (some ⟨by', oy, none⟩) ny cy) (fun w hw => by have := (HD.out w (H2 w (H1 w hw))).1; go_simp; first | done | rfl) (by simp only [List.set_cons_succ, List.set_cons_zero]; rfl) ?_
              refine relMove Ext.refl rfl rfl rfl rfl _ (.inl rfl) (by conv => lhs; whnf) (by simp only [List.set_cons_succ, List.set_cons_zero]; rfl) ?_
              refine relPure Ext.refl rfl rfl rfl rfl (fun w _ => by go_simp; first | done | rfl) (by simp only [List.set_cons_succ, List.set_cons_zero]; rfl) ?_
              refine relPure Ext.refl rfl rfl rfl rfl (c := .agg (hcs v)) (fun w hw => exec_load_mid _ _ rfl by' (oy + j * 32) rfl (v.map bv) _ (hrv.out w (H1 w hw)) Tryd.underlying25 rfl (by rw [List.length_map, hv32]; kernel_rfl)) (by simp only [List.set_cons_succ, List.set_cons_zero]; rfl) ?_
              refine relCall1 rfl rfl rfl rfl (c := .agg (hcs z)) 11 #[.agg (hcs u), .agg (hcs v)] (fun w => by go_simp) (fun w hw => (HQ.out w (ht.below (b5.trans ((H1 w hw).mono b5.size)))).mono ?_) (by simp only [List.set_cons_succ, List.set_cons_zero]; rfl) ?_
              · rintro e w' ⟨rfl, hb⟩
                exact ⟨rfl, hb⟩
              refine relPure Ext.refl rfl rfl rfl rfl (c := .bool false) (fun w _ => by go_simp; first | done | rfl) (by simp only [List.set_cons_succ, List.set_cons_zero]; rfl) ?_
              refine relPick Ext.refl rfl rfl rfl rfl _ _ _ rfl rfl (by conv => lhs; whnf) (by simp only [List.set_cons_succ, List.set_cons_zero]; rfl) ?_
              refine relEnd fun w7 hw7 => fill_end ?_
              have b57 := H1 w7 hw7
              go_wp2
              refine ⟨⟨k + 1, by omega, by go_num, b57⟩, ?_⟩
              simp [intOf]; omega
          · obtain rfl : k = nx := by omega
            have t5 : decide ((k : Int) < (k : Int)) = false := by simp
            go_wp2
            refine ⟨⟨h + 1, by omega, by go_num, bvw⟩, ?_⟩
            simp [intOf]; omega
    · obtain rfl : h = q := by omega
      have t4 : decide ((h : Int) < (h : Int)) = false := by simp
      obtain ⟨x, hx⟩ : ∃ x, lv[K]? = some x := ⟨_, List.getElem?_eq_getElem (by rw [k1.out, hq.out]; omega)⟩
      obtain ⟨hx1, hrx⟩ := k6.out x hx
      have hx32 := hlm.out x (List.mem_of_getElem? hx)
      obtain ⟨Ax, hAx⟩ : ∃ Ax, Ax = (ps.getD K (none, 0)).1 := ⟨_, rfl⟩
      obtain ⟨cx, hcx⟩ : ∃ cx, cx = (ps.getD K (none, 0)).2 := ⟨_, rfl⟩
      have HC : ∀ w', Below w2.heap.size w2 w' → w'.cell? ⟨bb, off + K, none⟩ = some (.slice Ax 1 cx) ∧ Rd w' Ax (hcl x) := fun w' hE => by
        have := HX.out K x hx w' hE
        rw [hx1, ← hAx, ← hcx] at this
        exact this
      have hcap := HB.out K x hx
      rw [hx1, ← hcx] at hcap
      have H2 : ∀ w', Below w5.heap.size w5 w' → Below w2.heap.size w2 w' := fun w' hE => b25.trans (hE.mono b25.size)
      obtain ⟨bx, ox, hbx⟩ := (HC wr (H2 wr bw)).2.someA (hcl_ne hx32 (by rw [hx1]; omega))
      subst hbx
      have hrr := Lib.hid (fun w' (hE : Below w5.heap.size w5 w') => hrx ▸ (HC w' (H2 w' hE)).2.hash hx32 0 (by rw [hx1]; omega))
      rw [Nat.zero_mul, Nat.add_zero] at hrr
      replace HC := Lib.hid HC
      replace hx := Lib.hid hx
      replace hx1 := Lib.hid hx1
      replace hrx := Lib.hid hrx
      replace hAx := Lib.hid hAx
      replace hcx := Lib.hid hcx
      have hr32 : r.length = 32 := hrl.out
      have e1 : IntKind.i64.wrap ((h : Int) - 1) = (h : Int) - 1 := by rw [IntKind.wrap_i64]; omega
      have e2 : 0 ≤ (h : Int) - 1 := by omega
      have e5 : 1 ≤ (h : Int) := by omega
      have e3 : (h : Int) - 1 < (h : Int) := by omega
      have e4 : ((h : Int) - 1).toNat = K := by have := hq.out; omega
      go_wp2_with fail
      have H1 : ∀ w', Ext wr.drew w' → Below w5.heap.size w5 w' := fun w' hE => bw.trans (hE.drew.mono bw.size)
      refine wp_region_rel [] Ext (by kernel_rfl) (by kernel_rfl) (by kernel_rfl) Ext.refl Ext.trans (by intro p hp; cases hp) ?_
      refine relMove Ext.refl rfl rfl rfl rfl _ (.inl rfl) (by conv => lhs; whnf) (by simp only [List.set_cons_succ, List.set_cons_zero]; rfl) ?_
      refine relMove Ext.refl rfl rfl rfl rfl _ (.inl rfl) (by conv => lhs; whnf) (by simp only [List.set_cons_succ, List.set_cons_zero]; rfl) ?_
      refine relMove Ext.refl rfl rfl rfl rfl _ (.inl rfl) (by conv => lhs; whnf) (by simp only [List.set_cons_succ, List.set_cons_zero]; rfl) ?_
      refine relMove Ext.refl rfl rfl rfl rfl _ (.inl rfl) (by conv => lhs; whnf) (by simp only [List.set_cons_succ, List.set_cons_zero]; rfl) ?_
      refine relPure Ext.refl rfl rfl rfl rfl (fun w _ => by go_simp; first | done | rfl) (by simp only [List.set_cons_succ, List.set_cons_zero]; rfl) ?_
      refine relPure Ext.refl rfl rfl rfl rfl (fun w _ => by go_simp; first | done | rfl) (by simp only [List.set_cons_succ, List.set_cons_zero]; rfl) ?_
      refine relPure Ext.refl rfl rfl rfl rfl (fun w _ => by go_simp; first | done | rfl) (by simp only [List.set_cons_succ, List.set_cons_zero]; rfl) ?_
      refine relPure Ext.refl rfl rfl rfl rfl (c := .slice (some ⟨bx, ox, none⟩) 1 cx) (fun w hw => by have := (HC.out w (H2 w (H1 w hw))).1; go_simp; first | done | rfl) (by simp only [List.set_cons_succ, List.set_cons_zero]; rfl) ?_
      refine relPure Ext.refl rfl rfl rfl rfl (fun w _ => by go_simp; first | done | rfl) (by simp only [List.set_cons_succ, List.set_cons_zero]; rfl) ?_
      refine relPure Ext.refl rfl rfl rfl rfl (c := .bool true) (fun w _ => by go_simp; first | done | rfl) (by simp only [List.set_cons_succ, List.set_cons_zero]; rfl) ?_
      refine relPick Ext.refl rfl rfl rfl rfl _ _ _ rfl rfl (by conv => lhs; whnf) (by simp only [List.set_cons_succ, List.set_cons_zero]; rfl) ?_
      refine relMove Ext.refl rfl rfl rfl rfl _ (.inl rfl) (by conv => lhs; whnf) (by simp only [List.set_cons_succ, List.set_cons_zero]; rfl) ?_
      refine relMove Ext.refl rfl rfl rfl rfl _ (.inl rfl) (by conv => lhs; whnf) (by simp only [List.set_cons_succ, List.set_cons_zero]; rfl) ?_
      refine relMove Ext.refl rfl rfl rfl rfl _ (.inl rfl) (by conv => lhs; whnf) (by simp only [List.set_cons_succ, List.set_cons_zero]; rfl) ?_
      refine relPure Ext.refl rfl rfl rfl rfl (fun w _ => by go_simp; first | done | rfl) (by simp only [List.set_cons_succ, List.set_cons_zero]; rfl) ?_
      refine relPure Ext.refl rfl rfl rfl rfl (fun w _ => by go_simp; first | done | rfl) (by simp only [List.set_cons_succ, List.set_cons_zero]; rfl) ?_
      refine relPure Ext.refl rfl rfl rfl rfl (fun w _ => by go_simp; first | done | rfl) (by simp only [List.set_cons_succ, List.set_cons_zero]; rfl) ?_
      refine relPure Ext.refl rfl rfl rfl rfl (c := .slice (some ⟨bx, ox, none⟩) 1 cx) (fun w hw => by have := (HC.out w (H2 w (H1 w hw))).1; go_simp; first | done | rfl) (by simp only [List.set_cons_succ, List.set_cons_zero]; rfl) ?_
      refine relPure Ext.refl rfl rfl rfl rfl (fun w _ => by go_simp; first | done | rfl) (by simp only [List.set_cons_succ, List.set_cons_zero]; rfl) ?_
      refine relPure Ext.refl rfl rfl rfl rfl (c := .agg (hcs r)) (fun w hw => exec_load_mid _ _ rfl bx (ox) rfl (r.map bv) _ (hrr.out w (H1 w hw)) Tryd.underlying25 rfl (by rw [List.length_map, hr32]; kernel_rfl)) (by simp only [List.set_cons_succ, List.set_cons_zero]; rfl) ?_
      refine relPure Ext.refl rfl rfl rfl rfl (c := .agg (r.map bv).toArray) (fun w hw => exec_loadAv (a7.below (H1 w hw)) _ _ rfl rfl _ 32 (by rw [List.length_map, hrl.out]) Tryd.underlying25 rfl (by kernel_rfl)) (by simp only [List.set_cons_succ, List.set_cons_zero]; rfl) ?_
      refine relPure Ext.refl rfl rfl rfl rfl (c := .bool true) (fun w _ => by go_simp; first | done | rfl) (by simp only [List.set_cons_succ, List.set_cons_zero]; rfl) ?_
      refine relPick Ext.refl rfl rfl rfl rfl _ _ _ rfl rfl (by conv => lhs; whnf) (by simp only [List.set_cons_succ, List.set_cons_zero]; rfl) ?_
      refine relMove Ext.refl rfl rfl rfl rfl _ (.inr rfl) (by conv => lhs; whnf) (by simp only [List.set_cons_succ, List.set_cons_zero]; rfl) ?_
      refine relEnd fun w7 hw7 => fill_end ?_
      have b57 := H1 w7 hw7
      go_wp2
      go_ret
      exact ⟨rfl, b5.trans (b57.mono b5.size)⟩
end Go.Proofs.YtngindljhlbglaaDoor
