/- partial: has a node a match? -/
import Derived.Test.YtdkknincamkhpaaDoorPx
namespace Go.Proofs.YtdkknincamkhpaaDoor
open Go.RowKit
attribute [local go_sem high] slB_lh slB_l slB_h
/-- has a node a match? -/
def pHas (n : Nat) (ms : List Bool) (h i : Nat) : Bool := (List.range (2 ^ h)).any fun j => decide (i * 2 ^ h + j < n) && ms.getD (i * 2 ^ h + j) false
theorem pHas_true {n : Nat} {ms : List Bool} {h i k : Nat} (h1 : i * 2 ^ h ≤ k) (h2 : k < (i + 1) * 2 ^ h) (h3 : k < n) (h4 : ms.getD k false = true) : pHas n ms h i = true := by
  unfold pHas
  rw [Nat.add_mul, Nat.one_mul] at h2
  rw [List.any_eq_true]
  exact ⟨k - i * 2 ^ h, List.mem_range.2 (by omega), by rw [show i * 2 ^ h + (k - i * 2 ^ h) = k by omega, decide_eq_true h3, h4]; rfl⟩
theorem pHas_false {n : Nat} {ms : List Bool} {h i : Nat} (hf : ∀ k, i * 2 ^ h ≤ k → k < (i + 1) * 2 ^ h → k < n → k < ms.length → ms.getD k false = false) : pHas n ms h i = false := by
  unfold pHas
  rw [List.any_eq_false]
  intro j hj
  have := List.mem_range.1 hj
  by_cases h1 : i * 2 ^ h + j < n
  · by_cases h2 : i * 2 ^ h + j < ms.length
    · rw [hf _ (by omega) (by rw [Nat.add_mul, Nat.one_mul]; omega) h1 h2]; simp
    · rw [List.getD_eq_getElem?_getD, List.getElem?_eq_none (by omega)]; simp
  · rw [decide_eq_false h1]; simp
theorem pHas_iff (n : Nat) (ms : List Bool) (h i : Nat) : pHas n ms h i = true ↔ ∃ k, i * 2 ^ h ≤ k ∧ k < (i + 1) * 2 ^ h ∧ k < n ∧ ms.getD k false = true := by
  constructor
  · intro hp
    apply Classical.byContradiction
    intro hc
    rw [pHas_false (fun k h1 h2 h3 _ => by
      cases e : ms.getD k false
      · rfl
      · exact absurd ⟨k, h1, h2, h3, e⟩ hc)] at hp
    cases hp
  · rintro ⟨k, h1, h2, h3, h4⟩
    exact pHas_true h1 h2 h3 h4
set_option maxRecDepth 10000 in
set_option maxHeartbeats 2000000 in
theorem PMatches (ms : List Bool) (nm cm : Nat) (Am : Option Addr) (n h i : Nat) (hnm : ms.length = nm) (hnm2 : nm ≤ 1000000) (hn : n ≤ 4096) (h1 : h ≤ 12) (i1 : i ≤ 4096) (w : World) (hr : Rd w Am (ms.map Value.bool)) :
    Calls Tryd.prog 65 #[.agg (ndc (h : Int) (i : Int)).toArray, .int .i64 (n : Int), .slice Am nm cm] w fun e w' => e = .returned (.bool (pHas n ms h i)) ∧ Below w.heap.size w w' := by
  unfold ndc
  obtain ⟨W, hW⟩ : ∃ W, W = w.alloc (.cells [.int .i64 (h : Int), .int .i64 (i : Int)].toArray 91) := ⟨_, rfl⟩
  obtain ⟨H, hH⟩ : ∃ H, H = w.heap.size := ⟨_, rfl⟩
  have bW : Below w.heap.size w W := by rw [hW]; exact (Below.refl _ _).alloc (Nat.le_refl _) _
  have aN : Av W H 91 (ndc (h : Int) (i : Int)) := by rw [hW, hH]; exact Av.new _ _ _
  have c0 := aN.cell 0 _ rfl
  have c1 := aN.cell 1 _ rfl
  have r1 := hr.below bW
  have hp : 2 ^ h ≤ 2 ^ 12 := Nat.pow_le_pow_right (by omega) h1
  obtain ⟨P, hP⟩ : ∃ P, P = 2 ^ h := ⟨_, rfl⟩
  rw [← hP] at hp
  have hip : (i + 1) * P ≤ 4097 * 4096 := Nat.mul_le_mul (by omega) (by omega)
  have hip0 : (i + 1) * P = i * P + P := by rw [Nat.add_mul, Nat.one_mul]
  obtain ⟨a, ha⟩ : ∃ a, a = i * P := ⟨_, rfl⟩
  obtain ⟨b, hb⟩ : ∃ b, b = min ((i + 1) * P) (min n nm) := ⟨_, rfl⟩
  have pw : (2 : Int) ^ h = ((P : Nat) : Int) := by rw [hP]; simp
  have sh0 : IntKind.i64.wrap ((i : Int) * 2 ^ h) = (a : Int) := by
    rw [pw, ← Int.natCast_mul, ← ha, IntKind.wrap_i64]
    omega
  obtain ⟨E, hE⟩ : ∃ E, E = (i + 1) * P := ⟨_, rfl⟩
  have sh1 : IntKind.i64.wrap (((i : Int) + 1) * 2 ^ h) = (E : Int) := by
    rw [pw, show (i : Int) + 1 = ((i + 1 : Nat) : Int) by simp, ← Int.natCast_mul, hE, IntKind.wrap_i64]
    omega
  have mi : (if (nm : Int) < (if n < E then (n : Int) else (E : Int)) then (nm : Int) else if n < E then (n : Int) else (E : Int)) = (b : Int) := by rw [hb, ← hE]; split <;> split at * <;> omega
  clear pw
  replace hE := Lib.hid hE
  have h64 : (h : Int) < 64 := by omega
  replace hW := Lib.hid hW
  replace hH := Lib.hid hH
  replace hP := Lib.hid hP
  replace ha := Lib.hid ha
  replace hb := Lib.hid hb
  replace hip := Lib.hid hip
  replace hip0 := Lib.hid hip0
  replace hnm := Lib.hid hnm
  go_enter Tryd.func65, Tryd.ntmps65
  go_upto_region 1 with fail
  rw [← hW.out, ← hH.out]
  go_upto_region 2 with fail
  clear mi
  go_wp2
  go_loop [8] (fun v => ∃ k : Nat, a ≤ k ∧ k ≤ max a b ∧ v = .int .i64 (k : Int) ∧ Hid (∀ j, a ≤ j → j < k → ms.getD j false = false)) (fun v => b - (intOf v).toNat)
  case atStart => exact ⟨a, Nat.le_refl _, by omega, rfl, Lib.hid (fun j h1 h2 => absurd h1 (by omega))⟩
  case round =>
    obtain ⟨k, hak, hkb, rfl, hall⟩ := hrel
    have kb : k ≤ 20000000 := by have := hip.out; have := hb.out; have := ha.out; have := hip0.out; omega
    by_cases hlt : k < b
    · have t1 : decide ((k : Int) < (b : Int)) = true := by simp; omega
      have hknm : k < nm := by have := hb.out; omega
      obtain ⟨v, hv⟩ : ∃ v, v = ms.getD k false := ⟨_, rfl⟩
      have hg : ms[k]? = some v := by rw [hv, List.getD_eq_getElem?_getD, List.getElem?_eq_getElem (by rw [hnm.out]; exact hknm)]; rfl
      obtain ⟨bb, off, rfl⟩ := r1.someA (by intro h; have := congrArg List.length h; rw [List.length_map, hnm.out] at this; simp at this; omega)
      have cx : W.cell? ⟨bb, off + k, none⟩ = some (.bool v) := by
        rcases r1 with h | ⟨b', o', hA', hc⟩
        · have := congrArg List.length h; rw [List.length_map, hnm.out] at this; simp at this; omega
        · cases hA'
          exact hc k _ (by rw [List.getElem?_map, hg]; rfl)
      replace hg := Lib.hid hg
      replace hv := Lib.hid hv
      cases v
      · go_wp2
        go_round
        case rel =>
          refine ⟨k + 1, by omega, by omega, ?_, Lib.hid ?_⟩
          · go_num
          · intro j h1 h2
            by_cases hjk : j = k
            · rw [hjk, ← hv.out]
            · exact hall.out j h1 (by omega)
        case measure =>
          simp [intOf]
          omega
      · go_wp2
        go_ret
        refine ⟨?_, bW⟩
        have h1 := hb.out
        have h2 := ha.out
        have h3 := hP.out
        rw [h2, h3] at hak
        rw [h3] at h1
        rw [pHas_true hak (by omega) (by omega) hv.out.symm]
        rfl
    · have t1 : decide ((k : Int) < (b : Int)) = false := by simp; omega
      go_wp2
      go_ret
      refine ⟨?_, bW⟩
      have h1 := hb.out
      have h2 := ha.out
      have h3 := hP.out
      rw [h3] at h1 h2
      rw [pHas_false (fun j q1 q2 q3 q4 => hall.out j (by omega) (by rw [hnm.out] at q4; omega))]
      rfl
end Go.Proofs.YtdkknincamkhpaaDoor
