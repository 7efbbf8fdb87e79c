/- Bits; CWalk: put together for the claim. -/
import Derived.WalkKit
import Derived.Lib.EndianBits
import Derived.Test.YtopgljkfoogihaaDoorChecked
import Derived.Test.YtopgljkfoogihaaDoorCMath
import Derived.Test.YtopgljkfoogihaaDoorPr1
import Derived.WalkSpells
import Derived.WalkLawsBesides
import Derived.Lib.Hide
/- Small laws on the bits of numbers. -/
namespace Go.Proofs.YtopgljkfoogihaaDoor
open Go.RowKit

theorem pow_split (k : Nat) (h : 8 * k + 8 ≤ 64) : 2 ^ (8 * k) * 256 ≤ 18446744073709551616 := by
  have : 2 ^ (8 * k + 8) ≤ 2 ^ 64 := Nat.pow_le_pow_right (by omega) h
  rw [Nat.pow_add] at this
  exact this
/-- 'n | b << (8 * k)', n below 2^(8k), b a byte: they are added. -/
theorem or_shl_u64 (a b k : Nat) (ha : a < 2 ^ (8 * k)) (hb : b < 256) (hk : 8 * k + 8 ≤ 64) :
    bits .or .u64 (a : Int) (IntKind.u64.wrap (IntKind.u64.wrap (b : Int) * 2 ^ (8 * k))) = ((a + 2 ^ (8 * k) * b : Nat) : Int) := by
  have hp := pow_split k hk
  have hq : 2 ^ (8 * k) * b ≤ 2 ^ (8 * k) * 255 := Nat.mul_le_mul_left _ (by omega)
  have e1 : IntKind.u64.wrap (b : Int) = b := wraps_u64 _ (by omega) (by omega)
  have e3 : (b : Int) * 2 ^ (8 * k) = ((2 ^ (8 * k) * b : Nat) : Int) := by rw [Int.natCast_mul, Int.mul_comm (b : Int)]; simp
  generalize hP : 2 ^ (8 * k) = p at *
  have e2 : IntKind.u64.wrap ((p * b : Nat) : Int) = ((p * b : Nat) : Int) := wraps_u64 _ (by omega) (by omega)
  rw [e1, e3, e2]
  rw [bits_join_low .u64 64 (by decide) wraps_u64 (8 * k) (a : Int) ((p * b : Nat) : Int) (by omega) ?_ (by omega) (by omega) ?_ (by omega)]
  · omega
  · rw [show (2 : Int) ^ (8 * k) = ((2 ^ (8 * k) : Nat) : Int) from by simp, hP]; omega
  · rw [show (2 : Int) ^ (8 * k) = ((2 ^ (8 * k) : Nat) : Int) from by simp, hP, ← Int.natCast_emod, Nat.mul_mod_right]; rfl
theorem pow_256 (k : Nat) : 256 ^ k = 2 ^ (8 * k) := by rw [Nat.pow_mul]
end Go.Proofs.YtopgljkfoogihaaDoor
/- The walks of layer 4's small functions. -/
namespace Go.Proofs.YtopgljkfoogihaaDoor
open Go.RowKit

theorem size_int (n : Int) (h : 0 ≤ n) : (n < 253 ∧ Cm.size n.toNat = 1) ∨ (253 ≤ n ∧ n < 65536 ∧ Cm.size n.toNat = 3) ∨ (65536 ≤ n ∧ n < 4294967296 ∧ Cm.size n.toNat = 5) ∨ (4294967296 ≤ n ∧ Cm.size n.toNat = 9) := by
  rcases Cm.size_cases n.toNat with c | c | c | c
  · exact .inl (by omega)
  · exact .inr (.inl (by omega))
  · exact .inr (.inr (.inl (by omega)))
  · exact .inr (.inr (.inr (by omega)))

set_option maxHeartbeats 400000 in
theorem compact_Size (n : Int) (h : 0 ≤ n) (w : World) :
    Calls Tryd.prog 40 #[.int .u64 n] w fun e w' => e = .returned (.int .i64 (Cm.size n.toNat : Int)) ∧ w = w' := by
  rcases size_int n h with ⟨c1, c2⟩ | ⟨c0, c1, c2⟩ | ⟨c0, c1, c2⟩ | ⟨c1, c2⟩
  all_goals
    rw [c2]; clear c2
    go_enter Tryd.func40, Tryd.ntmps40
    go_wp2
    go_ret
    exact ⟨rfl, rfl⟩

set_option maxHeartbeats 400000 in
theorem compact_behind (b : UInt8) (w : World) :
    Calls Tryd.prog 63 #[.int .u8 (b.toNat : Int)] w fun e w' => e = .returned (.int .i64 (Cm.behind b : Int)) ∧ w = w' := by
  rcases Cm.behind_cases b with ⟨rfl, c⟩ | ⟨rfl, c⟩ | ⟨rfl, c⟩ | ⟨h, c⟩
  all_goals rw [c]; clear c
  · go_enter Tryd.func63, Tryd.ntmps63
    go_wp2
    go_ret
    exact ⟨rfl, rfl⟩
  · go_enter Tryd.func63, Tryd.ntmps63
    go_wp2
    go_ret
    exact ⟨rfl, rfl⟩
  · go_enter Tryd.func63, Tryd.ntmps63
    go_wp2
    go_ret
    exact ⟨rfl, rfl⟩
  · generalize b.toNat = n at h
    go_enter Tryd.func63, Tryd.ntmps63
    go_wp2
    go_ret
    exact ⟨rfl, rfl⟩

theorem le_snoc (r : List UInt8) (k : Nat) (h : k < r.length) : Cm.le (r.take (k + 1)) = Cm.le (r.take k) + 2 ^ (8 * k) * r[k].toNat := by
  rw [List.take_succ_eq_append_getElem h, Cm.le_append, List.length_take, Nat.min_eq_left (by omega), pow_256]
  simp [Cm.le]
theorem le_take_lt (r : List UInt8) (k : Nat) (h : k ≤ r.length) : Cm.le (r.take k) < 2 ^ (8 * k) := by
  have := Cm.le_lt (r.take k)
  rwa [List.length_take, Nat.min_eq_left h, pow_256] at this

theorem ret1 {k : IntKind} {a b : Int} (h : a = b) : Ending.returned (.int k a) = .returned (.int k b) := by rw [h]
theorem ret3i {k1 k2 k3 : IntKind} {a b c a' b' c' : Int} (h1 : a = a') (h2 : b = b') (h3 : c = c') :
    Ending.returned (.tuple #[.int k1 a, .int k2 b, .int k3 c]) = .returned (.tuple #[.int k1 a', .int k2 b', .int k3 c']) := by rw [h1, h2, h3]

/-- a number of several bytes -/
theorem compact_Get_more (x : UInt8) (r : List UInt8) (blk off m n c T : Nat) (w : World) (h2 : 2 ≤ m) (h8 : m ≤ 8) (hx : Cm.behind x = m) (hr : m + 1 ≤ n) (hn : (n : Int) ≤ 9223372036854775807) (hrl : r.length + 1 = n)
    (hc : w.cell? ⟨blk, off, none⟩ = some (bv x)) (hcs : ∀ j (hj : j < r.length), w.cell? ⟨blk, off + (1 + j), none⟩ = some (bv r[j])) (HT : Hid (Cm.le (r.take m) = T)) (s : Bool) (hs : decide (Cm.size T = m + 1) = s) :
    Calls Tryd.prog 54 #[.slice (some ⟨blk, off, none⟩) n c] w fun e w' =>
      e = .returned (if s then .tuple #[.int .u64 (T : Int), .int .i64 (1 + m : Int), .int .i64 0] else .tuple #[.int .u64 0, .int .i64 0, .int .i64 2]) ∧ w = w' := by
  have hbh := compact_behind x w
  rw [hx] at hbh
  have H := Lib.hid hbh
  have Hcs := Lib.hid hcs
  have Hrl := Lib.hid hrl
  have Hs := Lib.hid hs
  have hlen : m ≤ r.length := by omega
  clear hbh hx hcs hrl hs
  have hz : ((m : Int) == 0) = false := by simp; omega
  have hnz : ((n : Int) == 0) = false := by simp; omega
  have hlt : decide ((n : Int) < 1 + (m : Int)) = false := by simp; omega
  go_enter Tryd.func54, Tryd.ntmps54
  go_wp2_with (go_at_call 63; refine (H.out).mono ?_; rintro e w' ⟨rfl, rfl⟩)
  go_loop [6, 27] (fun t i => ∃ k : Nat, k ≤ m ∧ i = .int .i64 k ∧ t = .int .u64 (Cm.le (r.take k) : Int)) (fun _ i => m - (intOf i).toNat)
  case atStart => exact ⟨0, Nat.zero_le _, rfl, rfl⟩
  case round =>
    obtain ⟨k, hk, rfl, rfl⟩ := hrel
    by_cases hkm : k < m
    · have hck := Hcs.out k (by omega)
      go_wp2
      go_round
      case rel =>
        refine ⟨k + 1, by omega, by go_num, ?_⟩
        rw [or_shl_u64 _ _ _ (le_take_lt r k (by omega)) (Cm.u8_lt _) (by omega), le_snoc r k (by omega)]
      case measure => simp [intOf]; omega
    · obtain rfl : k = m := by omega
      clear hkm hk
      rw [HT.out]
      have hsl := Cm.size_le T
      have h0 : 0 ≤ (T : Int) := by omega
      cases s
      · have hb : (((Cm.size T : Nat) : Int) != 1 + (k : Int)) = true := by have := Hs.out; simp at this; simp; omega
        go_wp2_with (go_at_call 40; refine (compact_Size _ h0 _).mono ?_; rintro e w' ⟨rfl, rfl⟩)
        go_ret3
        exact ⟨rfl, rfl⟩
      · have hb : (((Cm.size T : Nat) : Int) != 1 + (k : Int)) = false := by have := Hs.out; simp at this; simp; omega
        go_wp2_with (go_at_call 40; refine (compact_Size _ h0 _).mono ?_; rintro e w' ⟨rfl, rfl⟩)
        go_ret3
        exact ⟨rfl, rfl⟩
end Go.Proofs.YtopgljkfoogihaaDoor
