/- florinref11.has. -/
import Derived.Test.YtmdllemgjhkphaaDoorPr10
import Derived.Test.YtmdllemgjhkphaaDoorPv
namespace Go.Proofs.YtmdllemgjhkphaaDoor
open Go.RowKit
set_option maxRecDepth 10000 in
set_option maxHeartbeats 2000000 in
theorem HasR (ms : List Bool) (nm cm : Nat) (Am : Option Addr) (n h i : Nat) (hnm : ms.length = nm) (hnm2 : nm ≤ 1000000) (_ : n ≤ 4096) (h1 : h ≤ 12) (i1 : i ≤ 4096) (w : World) (hr : Rd w Am (ms.map Value.bool)) :
    Calls Tryd.prog 48 #[.int .i64 (n : Int), .slice Am nm cm, .int .i64 (h : Int), .int .i64 (i : Int)] w fun e w' => e = .returned (.bool (pHas n ms h i)) ∧ w' = w := by
  have hp : 2 ^ h ≤ 2 ^ 12 := Nat.pow_le_pow_right (by omega) h1
  have hpk := fun (j : Nat) (hj : j ≤ h) => pow_le12 j (by omega)
  obtain ⟨P, hP⟩ : ∃ P, P = 2 ^ h := ⟨_, rfl⟩
  rw [← hP] at hp
  have hip : i * P ≤ 4096 * 4096 := Nat.mul_le_mul (by omega) (by omega)
  have hip0 : (i + 1) * P = i * P + P := by rw [Nat.add_mul, Nat.one_mul]
  obtain ⟨a, ha⟩ : ∃ a, a = i * P := ⟨_, rfl⟩
  rw [← ha] at hip hip0
  have pw : (2 : Int) ^ h = ((P : Nat) : Int) := by rw [hP]; simp
  have sh0 : IntKind.i64.wrap ((i : Int) * (P : Int)) = (a : Int) := by
    rw [← Int.natCast_mul, ← ha, IntKind.wrap_i64]
    omega
  obtain ⟨E, hE⟩ : ∃ E, E = (i + 1) * P := ⟨_, rfl⟩
  rw [← hE] at hip0
  have sh1 : IntKind.i64.wrap (((i : Int) + 1) * (P : Int)) = (E : Int) := by
    rw [show (i : Int) + 1 = ((i + 1 : Nat) : Int) by simp, ← Int.natCast_mul, ← hE, IntKind.wrap_i64]
    omega
  have sh2 : (i : Int) * (P : Int) = (a : Int) := by rw [← Int.natCast_mul, ← ha]
  have sh3 : ((i : Int) + 1) * (P : Int) = (E : Int) := by rw [show (i : Int) + 1 = ((i + 1 : Nat) : Int) by simp, ← Int.natCast_mul, ← hE]
  obtain ⟨V, hV⟩ : ∃ V, V = pHas n ms h i := ⟨_, rfl⟩
  have ht : ∀ k, a ≤ k → k < E → k < n → ms.getD k false = true → V = true := fun k k1 k2 k3 k4 => by rw [hV]; exact pHas_true (by rw [← hP, ← ha]; exact k1) (by rw [← hP, ← hE]; exact k2) k3 k4
  have hf : (∀ k, a ≤ k → k < E → k < n → k < nm → ms.getD k false = false) → V = false := fun hq => by rw [hV]; exact pHas_false (fun k k1 k2 k3 k4 => hq k (by rw [ha, hP]; exact k1) (by rw [hE, hP]; exact k2) k3 (by omega))
  rw [← hV]
  replace hV := Lib.hid hV
  replace hP := Lib.hid hP
  replace ha := Lib.hid ha
  replace hE := Lib.hid hE
  replace ht := Lib.hid ht
  replace hf := Lib.hid hf
  replace hnm := Lib.hid hnm
  replace pw := Lib.hid pw
  replace hpk := Lib.hid hpk
  go_enter Tryd.func48, Tryd.ntmps48
  go_wp2
  go_loopw [9, 10] (fun s j wr => ∃ (k : Nat) (S : Int), Hid (S = 2 ^ k) ∧ k ≤ h ∧ s = .int .i64 S ∧ j = .int .i64 (k : Int) ∧ wr = w) (fun _ j _ => h - (intOf j).toNat)
  case atStart => exact ⟨0, 1, Lib.hid (by decide), by omega, rfl, rfl, rfl⟩
  case round =>
    obtain ⟨k, S, hS, hk, rfl, rfl, hwr⟩ := hrel
    obtain rfl := hwr.symm
    have hb1 := hpk.out k hk
    rw [← hS.out] at hb1
    by_cases hlt : k < h
    · have t1 : decide ((k : Int) < (h : Int)) = true := decide_eq_true (by omega)
      have hb2 := hpk.out (k + 1) hlt
      rw [Int.pow_succ, ← hS.out] at hb2
      go_wp2
      refine ⟨⟨k + 1, S * 2, Lib.hid (by rw [Int.pow_succ, hS.out]), by omega, rfl, rfl, trivial⟩, ?_⟩
      simp [intOf]; omega
    · obtain rfl : k = h := by omega
      have t1 : decide ((k : Int) < (k : Int)) = false := by simp
      obtain rfl : S = (P : Int) := by rw [hS.out]; exact pw.out
      clear hS
      go_wp2
      go_loopw [11] (fun j wr => ∃ q : Nat, a ≤ q ∧ q ≤ max a (min E (min n nm)) ∧ j = .int .i64 (q : Int) ∧ Hid (∀ j, a ≤ j → j < q → ms.getD j false = false) ∧ wr = w) (fun j _ => E - (intOf j).toNat)
      case atStart => exact ⟨a, Nat.le_refl _, by omega, rfl, Lib.hid (fun j h1 h2 => absurd h1 (by omega)), rfl⟩
      case round =>
        obtain ⟨q, haq, hqb, rfl, hall, hwr⟩ := hrel
        obtain rfl := hwr.symm
        by_cases c1 : q < E
        · have u1 : decide ((q : Int) < (a : Int) + (P : Int)) = true := decide_eq_true (by omega)
          by_cases c2 : q < n
          · have u2 : decide ((q : Int) < (n : Int)) = true := decide_eq_true (by omega)
            by_cases c3 : q < nm
            · have u3 : decide ((q : Int) < (nm : Int)) = true := decide_eq_true (by omega)
              obtain ⟨v, hv⟩ : ∃ v, v = ms.getD q false := ⟨_, rfl⟩
              have hg : ms[q]? = some v := by rw [hv, List.getD_eq_getElem?_getD, List.getElem?_eq_getElem (by rw [hnm.out]; exact c3)]; rfl
              obtain ⟨bb, off, rfl⟩ := hr.someA (by intro h; have := congrArg List.length h; rw [List.length_map, hnm.out] at this; simp at this; omega)
              have cx : w.cell? ⟨bb, off + q, none⟩ = some (.bool v) := by
                rcases hr with h | ⟨b', o', hA', hc⟩
                · have := congrArg List.length h; rw [List.length_map, hnm.out] at this; simp at this; omega
                · cases hA'
                  exact hc q _ (by rw [List.getElem?_map, hg]; rfl)
              have m0 : 0 ≤ (q : Int) := by omega
              have m1 : (q : Int) < (nm : Int) := by omega
              replace hg := Lib.hid hg
              replace hv := Lib.hid hv
              cases v
              · go_wp2
                refine ⟨⟨q + 1, by omega, by omega, rfl, Lib.hid ?_, trivial⟩, ?_⟩
                · intro j h1 h2
                  by_cases hjk : j = q
                  · rw [hjk, ← hv.out]
                  · exact hall.out j h1 (by omega)
                · simp [intOf]; omega
              · have hVt := ht.out q haq c1 c2 (by rw [← hv.out])
                go_wp2
                go_ret
                exact ⟨by first | rfl | (rw [hVt]; rfl), rfl⟩
            · have u3 : decide ((q : Int) < (nm : Int)) = false := decide_eq_false (by omega)
              have hVf := hf.out (fun k k1 k2 k3 k4 => hall.out k k1 (by omega))
              go_wp2
              go_ret
              exact ⟨by first | rfl | (rw [hVf]; rfl), rfl⟩
          · have u2 : decide ((q : Int) < (n : Int)) = false := decide_eq_false (by omega)
            have hVf := hf.out (fun k k1 k2 k3 k4 => hall.out k k1 (by omega))
            go_wp2
            go_ret
            exact ⟨by first | rfl | (rw [hVf]; rfl), rfl⟩
        · have u1 : decide ((q : Int) < (a : Int) + (P : Int)) = false := decide_eq_false (by omega)
          have hVf := hf.out (fun k k1 k2 k3 k4 => hall.out k k1 (by omega))
          go_wp2
          go_ret
          exact ⟨by first | rfl | (rw [hVf]; rfl), rfl⟩
set_option maxRecDepth 10000 in
set_option maxHeartbeats 2000000 in
theorem CountR (ms : List Bool) (nm cm : Nat) (Am : Option Addr) (n : Nat) (hnm : ms.length = nm) (hnm2 : nm ≤ 1000000) (hn0 : 0 < n) (hn : n ≤ 4096) (w : World) (hr : Rd w Am (ms.map Value.bool)) :
    ∀ (h i : Nat), h ≤ 12 → i < pWd n h → Calls Tryd.prog 35 #[.int .i64 (n : Int), .slice Am nm cm, .int .i64 (h : Int), .int .i64 (i : Int)] w fun e w' => e = .returned (.int .i64 ((pVis n ms h i).length : Int)) ∧ w' = w := by
  intro h
  induction h with
  | zero =>
    intro i _ hi
    rw [show (pVis n ms 0 i).length = 1 by rw [pVis]; rfl]
    go_enter Tryd.func35, Tryd.ntmps35
    go_wp2
    go_ret
    exact ⟨rfl, rfl⟩
  | succ h ih =>
    intro i h12 hi
    have hi4 : i ≤ 4096 := by have := pWd_le n (h + 1) hn0; omega
    have hws := pWd_succ n h
    have HH := HasR ms nm cm Am n (h + 1) i hnm hnm2 hn h12 hi4 w hr
    rw [show ((h + 1 : Nat) : Int) = (h : Int) + 1 by omega] at HH ⊢
    have th : ((h : Int) + 1 == 0) = false := by simp; omega
    cases hV : pHas n ms (h + 1) i with
    | false =>
      rw [hV] at HH
      rw [show (pVis n ms (h + 1) i).length = 1 by rw [pVis_told (by rw [hV]; intro e; cases e)]; rfl]
      replace HH := Lib.hid HH
      go_enter Tryd.func35, Tryd.ntmps35
      go_wp2_with (go_at_call 48; refine HH.out.mono ?_; rintro e w1 ⟨rfl, hw⟩; obtain rfl := hw.symm)
      go_ret
      exact ⟨rfl, rfl⟩
    | true =>
      rw [hV] at HH
      have H1 := ih (2 * i) (by omega) (by omega)
      rw [show ((2 * i : Nat) : Int) = 2 * (i : Int) by omega] at H1
      have HW := WidthR (n : Int) (h : Int) w
      rw [pWd_of n h hn (by omega)] at HW
      have hl1 := pVis_length n ms h (2 * i)
      have hp12 : 2 ^ (h + 1) ≤ 2 ^ 12 := Nat.pow_le_pow_right (by omega) h12
      by_cases hw : 2 * i + 1 < pWd n h
      · have H2 := ih (2 * i + 1) (by omega) hw
        rw [show ((2 * i + 1 : Nat) : Int) = 2 * (i : Int) + 1 by omega] at H2
        have hl2 := pVis_length n ms h (2 * i + 1)
        rw [pVis_two rfl hV hw]
        simp only [List.length_cons, List.length_append]
        have tw : decide (2 * (i : Int) + 1 < ((pWd n h : Nat) : Int)) = true := decide_eq_true (by omega)
        generalize (pVis n ms h (2 * i)).length = c1 at *
        generalize (pVis n ms h (2 * i + 1)).length = c2 at *
        generalize pWd n h = wd at *
        replace HH := Lib.hid HH
        replace HW := Lib.hid HW
        replace H1 := Lib.hid H1
        replace H2 := Lib.hid H2
        clear ih hV
        go_enter Tryd.func35, Tryd.ntmps35
        go_upto_region 3 with (go_at_call 48; refine HH.out.mono ?_; rintro e w1 ⟨rfl, hw⟩; obtain rfl := hw.symm)
        go_upto_region 4 with (go_at_call 35; refine H1.out.mono ?_; rintro e w1 ⟨rfl, hw⟩; obtain rfl := hw.symm)
        go_upto_region 5 with (go_at_call 49; refine HW.out.mono ?_; rintro e w1 ⟨rfl, hw⟩; obtain rfl := hw.symm)
        go_wp2_with (go_at_call 35; refine H2.out.mono ?_; rintro e w1 ⟨rfl, hw⟩; obtain rfl := hw.symm)
        go_ret
        exact ⟨congrArg (fun x => Ending.returned (Value.int IntKind.i64 x)) (by omega), rfl⟩
      · rw [pVis_one rfl hV hw]
        simp only [List.length_cons]
        have tw : decide (2 * (i : Int) + 1 < ((pWd n h : Nat) : Int)) = false := decide_eq_false (by omega)
        generalize (pVis n ms h (2 * i)).length = c1 at *
        generalize pWd n h = wd at *
        replace HH := Lib.hid HH
        replace HW := Lib.hid HW
        replace H1 := Lib.hid H1
        clear ih hV
        go_enter Tryd.func35, Tryd.ntmps35
        go_upto_region 3 with (go_at_call 48; refine HH.out.mono ?_; rintro e w1 ⟨rfl, hw⟩; obtain rfl := hw.symm)
        go_upto_region 4 with (go_at_call 35; refine H1.out.mono ?_; rintro e w1 ⟨rfl, hw⟩; obtain rfl := hw.symm)
        go_wp2_with (go_at_call 49; refine HW.out.mono ?_; rintro e w1 ⟨rfl, hw⟩; obtain rfl := hw.symm)
        go_ret
        exact ⟨congrArg (fun x => Ending.returned (Value.int IntKind.i64 x)) (by omega), rfl⟩
end Go.Proofs.YtmdllemgjhkphaaDoor
