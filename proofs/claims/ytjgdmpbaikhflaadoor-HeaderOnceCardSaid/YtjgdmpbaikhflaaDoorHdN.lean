/- header.number, Get. -/
import Derived.Test.YtjgdmpbaikhflaaDoorHdA
import Derived.Test.YtjgdmpbaikhflaaDoorCGet
namespace Go.Proofs.YtjgdmpbaikhflaaDoor
open Go.RowKit
attribute [local go_sem high] slB_lh slB_l slB_h
theorem pow_split32 (k : Nat) (h : 8 * k + 8 ≤ 32) : 2 ^ (8 * k) * 256 ≤ 4294967296 := by
  have : 2 ^ (8 * k + 8) ≤ 2 ^ 32 := Nat.pow_le_pow_right (by omega) h
  rw [Nat.pow_add] at this
  exact this
theorem or_shl_u32 (a b k : Nat) (ha : a < 2 ^ (8 * k)) (hb : b < 256) (hk : 8 * k + 8 ≤ 32) :
    bits .or .u32 (a : Int) (IntKind.u32.wrap (IntKind.u32.wrap (b : Int) * 2 ^ (8 * k))) = ((a + 2 ^ (8 * k) * b : Nat) : Int) := by
  have hp := pow_split32 k hk
  have hq : 2 ^ (8 * k) * b ≤ 2 ^ (8 * k) * 255 := Nat.mul_le_mul_left _ (by omega)
  have e1 : IntKind.u32.wrap (b : Int) = b := wraps_u32 _ (by omega) (by omega)
  have e3 : (b : Int) * 2 ^ (8 * k) = ((2 ^ (8 * k) * b : Nat) : Int) := by rw [Int.natCast_mul, Int.mul_comm (b : Int)]; simp
  generalize hP : 2 ^ (8 * k) = p at *
  have e2 : IntKind.u32.wrap ((p * b : Nat) : Int) = ((p * b : Nat) : Int) := wraps_u32 _ (by omega) (by omega)
  rw [e1, e3, e2]
  rw [bits_join_low .u32 32 (by decide) wraps_u32 (8 * k) (a : Int) ((p * b : Nat) : Int) (by omega) ?_ (by omega) (by omega) ?_ (by omega)]
  · omega
  · rw [show (2 : Int) ^ (8 * k) = ((2 ^ (8 * k) : Nat) : Int) from by simp, hP]; omega
  · rw [show (2 : Int) ^ (8 * k) = ((2 ^ (8 * k) : Nat) : Int) from by simp, hP, ← Int.natCast_emod, Nat.mul_mod_right]; rfl
theorem or_shl_u32m (a b k : Nat) (ha : a < 2 ^ (8 * k)) (hb : b < 256) (hk : 8 * k + 8 ≤ 32) :
    bits .or .u32 (a : Int) ((b : Int) % 4294967296 * 2 ^ (8 * k) % 4294967296) = ((a + 2 ^ (8 * k) * b : Nat) : Int) := by
  have h := or_shl_u32 a b k ha hb hk
  rw [IntKind.wrap_u32, IntKind.wrap_u32] at h
  exact h
theorem le_take_stepN (l : List UInt8) (k : Nat) (h : k < l.length) : Cm.le (l.take (k + 1)) = Cm.le (l.take k) + 2 ^ (8 * k) * l[k].toNat := by
  rw [List.take_succ_eq_append_getElem h, Cm.le_append, List.length_take, Nat.min_eq_left (Nat.le_of_lt h), pow_256]
  simp [Cm.le]
theorem le_take_bndN (l : List UInt8) (k : Nat) : Cm.le (l.take k) < 2 ^ (8 * k) := by
  have h := Cm.le_lt (l.take k)
  rw [pow_256] at h
  refine Nat.lt_of_lt_of_le h (Nat.pow_le_pow_right (by omega) ?_)
  rw [List.length_take]
  omega
set_option maxRecDepth 10000 in
set_option maxHeartbeats 1000000 in
theorem HdNum (x : List UInt8) (m : Nat) (hxm : x.length = m) (h4 : 4 ≤ m) (A : Option Addr) (c : Nat) (w : World) (hrx : Rd w A (x.map bv)) :
    Calls Tryd.prog 31 #[.slice A m c] w fun r w' => r = .returned (.int .u32 (Cm.le (x.take 4) : Int)) ∧ w' = w := by
  replace hxm := Lib.hid hxm
  go_enter Tryd.func31, Tryd.ntmps31
  go_wp2
  go_loop [3, 5] (fun t i => ∃ k : Nat, k ≤ 4 ∧ i = .int .i64 (k : Int) ∧ t = .int .u32 (Cm.le (x.take k) : Int)) (fun _ i => 4 - (intOf i).toNat)
  case atStart => exact ⟨0, by omega, rfl, rfl⟩
  case round =>
    obtain ⟨k, hk, rfl, rfl⟩ := hrel
    by_cases hlt : k < 4
    · have t1 : decide ((k : Int) < 4) = true := by simp; omega
      have hkx : k < x.length := by rw [hxm.out]; omega
      obtain ⟨b, off, rfl⟩ := hrx.someA (by intro h; have := congrArg List.length h; rw [List.length_map, hxm.out] at this; simp at this; omega)
      have hck : w.cell? ⟨b, off + k, none⟩ = some (bv x[k]) := by
        rcases hrx with h | ⟨b', o', hA, hc⟩
        · rw [List.map_eq_nil_iff] at h; rw [h] at hkx; simp at hkx
        · cases hA
          exact hc k _ (by rw [List.getElem?_map, List.getElem?_eq_getElem hkx]; rfl)
      have hstep := Lib.hid (le_take_stepN x k hkx)
      have m0 : 0 ≤ (k : Int) := by omega
      have m1 : (k : Int) < (m : Int) := by omega
      have e1 : IntKind.i64.wrap (8 * (k : Int)) = 8 * (k : Int) := by rw [IntKind.wrap_i64]; omega
      have e2 : 0 ≤ 8 * (k : Int) := by omega
      have e3 : 8 * (k : Int) < 32 := by omega
      have e4 : (8 * (k : Int)).toNat = 8 * k := by omega
      go_wp2
      go_round
      case rel =>
        refine ⟨k + 1, by omega, by go_num, ?_⟩
        rw [or_shl_u32m _ _ _ (le_take_bndN x k) (Cm.u8_lt _) (by omega), ← hstep.out]
      case measure => simp [intOf]; omega
    · obtain rfl : k = 4 := by omega
      go_wp2
      go_ret
      exact ⟨rfl, rfl⟩
end Go.Proofs.YtjgdmpbaikhflaaDoor
