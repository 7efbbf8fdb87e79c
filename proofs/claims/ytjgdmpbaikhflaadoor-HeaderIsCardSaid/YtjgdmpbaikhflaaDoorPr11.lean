/- CGet; HdN: put together for the claim. -/
import Derived.Test.YtjgdmpbaikhflaaDoorPr8
/- Layer 4: Get, Bounded: the walks joined. -/
namespace Go.Proofs.YtjgdmpbaikhflaaDoor
open Go.RowKit

set_option maxHeartbeats 400000 in
theorem compact_Get_none (A : Option Addr) (c : Nat) (w : World) :
    Calls Tryd.prog 49 #[.slice A 0 c] w fun e w' => e = .returned (.tuple #[.int .u64 0, .int .i64 0, .int .i64 1]) ∧ w = w' := by
  go_enter Tryd.func49, Tryd.ntmps49
  go_wp2
  go_ret3
  exact ⟨rfl, rfl⟩

set_option maxHeartbeats 400000 in
theorem compact_Get_one (x : UInt8) (blk off n c : Nat) (w : World) (hx : Cm.behind x = 0) (hr : 1 ≤ n) (hc : w.cell? ⟨blk, off, none⟩ = some (bv x)) :
    Calls Tryd.prog 49 #[.slice (some ⟨blk, off, none⟩) n c] w fun e w' => e = .returned (.tuple #[.int .u64 (x.toNat : Int), .int .i64 1, .int .i64 0]) ∧ w = w' := by
  have hbh := compact_behind x w
  rw [hx] at hbh
  have H := Lib.hid hbh
  clear hbh hx
  have hnz : ((n : Int) == 0) = false := by simp; omega
  have hx := Cm.u8_lt x
  go_enter Tryd.func49, Tryd.ntmps49
  go_wp2_with (go_at_call 61; refine (H.out).mono ?_; rintro e w' ⟨rfl, rfl⟩)
  go_ret3
  exact ⟨rfl, rfl⟩

set_option maxHeartbeats 400000 in
theorem compact_Get_short (x : UInt8) (blk off m n c : Nat) (w : World) (hx : Cm.behind x = m) (h2 : 2 ≤ m) (h8 : m ≤ 8) (hr : 1 ≤ n) (hn : n < m + 1) (hc : w.cell? ⟨blk, off, none⟩ = some (bv x)) :
    Calls Tryd.prog 49 #[.slice (some ⟨blk, off, none⟩) n c] w fun e w' => e = .returned (.tuple #[.int .u64 0, .int .i64 0, .int .i64 1]) ∧ w = w' := by
  have hbh := compact_behind x w
  rw [hx] at hbh
  have H := Lib.hid hbh
  clear hbh hx
  have hz : ((m : Int) == 0) = false := by simp; omega
  have hnz : ((n : Int) == 0) = false := by simp; omega
  have hlt : decide ((n : Int) < 1 + (m : Int)) = true := by simp; omega
  go_enter Tryd.func49, Tryd.ntmps49
  go_wp2_with (go_at_call 61; refine (H.out).mono ?_; rintro e w' ⟨rfl, rfl⟩)
  go_ret3
  exact ⟨rfl, rfl⟩

/-- compact.Get: what the bytes are got as. -/
theorem compact_Get (bs : List UInt8) (X K E : Nat) (hg : Cm.get bs = (X, K, E)) (A : Option Addr) (n c : Nat) (w : World) (hr : Rd w A (bs.map bv)) (hn : bs.length = n) (hm : (n : Int) ≤ 9223372036854775807) :
    Calls Tryd.prog 49 #[.slice A n c] w fun e w' => e = .returned (.tuple #[.int .u64 (X : Int), .int .i64 (K : Int), .int .i64 (E : Int)]) ∧ w = w' := by
  cases bs with
  | nil =>
    simp only [Cm.get, Prod.mk.injEq] at hg
    obtain ⟨rfl, rfl, rfl⟩ := hg
    obtain rfl : n = 0 := hn.symm
    exact compact_Get_none A c w
  | cons x r =>
    obtain ⟨b, off, rfl, hc⟩ := Rd.cons hr
    have hc0 : w.cell? ⟨b, off, none⟩ = some (bv x) := hc 0 _ rfl
    have hcs : ∀ j (hj : j < r.length), w.cell? ⟨b, off + (1 + j), none⟩ = some (bv r[j]) := fun j hj =>
      hc (1 + j) _ (by rw [Nat.add_comm 1 j]; simp [hj])
    simp only [List.length_cons] at hn
    have hb : Cm.behind x = 0 ∨ (2 ≤ Cm.behind x ∧ Cm.behind x ≤ 8) := by rcases Cm.behind_cases x with h | h | h | h <;> omega
    rcases hb with hb | ⟨h2, h8⟩
    · simp only [Cm.get, if_pos hb, Prod.mk.injEq] at hg
      obtain ⟨rfl, rfl, rfl⟩ := hg
      exact compact_Get_one x b off n c w hb (by omega) hc0
    · have hb : ¬ Cm.behind x = 0 := by omega
      by_cases hl : r.length < Cm.behind x
      · simp only [Cm.get, if_neg hb, if_pos hl, Prod.mk.injEq] at hg
        obtain ⟨rfl, rfl, rfl⟩ := hg
        exact compact_Get_short x b off _ n c w rfl h2 h8 (by omega) (by omega) hc0
      · have h := compact_Get_more x r b off _ n c _ w h2 h8 rfl (by omega) hm hn hc0 hcs rfl _ rfl
        by_cases hs : Cm.size (Cm.le (r.take (Cm.behind x))) = Cm.behind x + 1
        · simp only [Cm.get, if_neg hb, if_neg hl] at hg
          rw [if_neg (by omega)] at hg
          simp only [Prod.mk.injEq] at hg
          obtain ⟨rfl, rfl, rfl⟩ := hg
          rw [decide_eq_true hs] at h
          refine h.mono fun e w' ⟨he, hw⟩ => ⟨?_, hw⟩
          rw [he, if_pos rfl]
          exact ret3i rfl (by omega) rfl
        · simp only [Cm.get, if_neg hb, if_neg hl] at hg
          rw [if_pos (by omega)] at hg
          simp only [Prod.mk.injEq] at hg
          obtain ⟨rfl, rfl, rfl⟩ := hg
          rw [decide_eq_false hs] at h
          exact h.mono fun e w' ⟨he, hw⟩ => ⟨he, hw⟩

set_option maxHeartbeats 400000 in
theorem compact_Bounded_bad (bs : List UInt8) (X K E : Nat) (hg : Cm.get bs = (X, K, E)) (hE : ((E : Int) != 0) = true) (most : Int) (A : Option Addr) (n c : Nat) (w : World) (hr : Rd w A (bs.map bv)) (hn : bs.length = n) (hm : (n : Int) ≤ 9223372036854775807) :
    Calls Tryd.prog 34 #[.slice A n c, .int .u64 most] w fun e w' => e = .returned (.tuple #[.int .i64 0, .int .i64 0, .int .i64 (E : Int)]) ∧ w = w' := by
  have H := Lib.hid (compact_Get bs X K E hg A n c w hr hn hm)
  clear hg hr hn
  go_enter Tryd.func34, Tryd.ntmps34
  go_wp2_with (go_at_call 49; refine (H.out).mono ?_; rintro e w' ⟨rfl, rfl⟩)
  go_ret3
  exact ⟨rfl, rfl⟩

set_option maxHeartbeats 400000 in
theorem compact_Bounded_big (bs : List UInt8) (X K : Nat) (hg : Cm.get bs = (X, K, 0)) (most : Int) (hb : most < X ∨ 2147483647 < (X : Int)) (A : Option Addr) (n c : Nat) (w : World) (hr : Rd w A (bs.map bv)) (hn : bs.length = n) (hm : (n : Int) ≤ 9223372036854775807) :
    Calls Tryd.prog 34 #[.slice A n c, .int .u64 most] w fun e w' => e = .returned (.tuple #[.int .i64 0, .int .i64 0, .int .i64 3]) ∧ w = w' := by
  have H := Lib.hid (compact_Get bs X K 0 hg A n c w hr hn hm)
  clear hg hr hn hm
  generalize (X : Int) = x at *
  by_cases hb1 : most < x
  · clear hb
    go_enter Tryd.func34, Tryd.ntmps34
    go_wp2_with (go_at_call 49; refine (H.out).mono ?_; rintro e w' ⟨rfl, rfl⟩)
    go_ret3
    exact ⟨rfl, rfl⟩
  · have hb2 : 2147483647 < x := by omega
    clear hb
    go_enter Tryd.func34, Tryd.ntmps34
    go_wp2_with (go_at_call 49; refine (H.out).mono ?_; rintro e w' ⟨rfl, rfl⟩)
    go_ret3
    exact ⟨rfl, rfl⟩

set_option maxHeartbeats 400000 in
theorem compact_Bounded_ok (bs : List UInt8) (X K : Nat) (hg : Cm.get bs = (X, K, 0)) (most : Int) (hb1 : ¬ most < X) (hb2 : (X : Int) ≤ 2147483647) (A : Option Addr) (n c : Nat) (w : World) (hr : Rd w A (bs.map bv)) (hn : bs.length = n) (hm : (n : Int) ≤ 9223372036854775807) :
    Calls Tryd.prog 34 #[.slice A n c, .int .u64 most] w fun e w' => e = .returned (.tuple #[.int .i64 (X : Int), .int .i64 (K : Int), .int .i64 0]) ∧ w = w' := by
  have H := Lib.hid (compact_Get bs X K 0 hg A n c w hr hn hm)
  clear hg hr hn hm
  have h0 : 0 ≤ (X : Int) := by omega
  generalize (X : Int) = x at *
  have hb3 : ¬ 2147483647 < x := by omega
  go_enter Tryd.func34, Tryd.ntmps34
  go_wp2_with (go_at_call 49; refine (H.out).mono ?_; rintro e w' ⟨rfl, rfl⟩)
  go_ret3
  exact ⟨rfl, rfl⟩

/-- compact.Bounded -/
theorem compact_Bounded (bs : List UInt8) (most : Int) (h0 : 0 ≤ most) (X K E : Nat) (hg : Cm.bounded bs most.toNat = (X, K, E)) (A : Option Addr) (n c : Nat) (w : World) (hr : Rd w A (bs.map bv)) (hn : bs.length = n) (hm : (n : Int) ≤ 9223372036854775807) :
    Calls Tryd.prog 34 #[.slice A n c, .int .u64 most] w fun e w' => e = .returned (.tuple #[.int .i64 (X : Int), .int .i64 (K : Int), .int .i64 (E : Int)]) ∧ w = w' := by
  obtain ⟨x, k, e, hq⟩ : ∃ x k e, Cm.get bs = (x, k, e) := ⟨_, _, _, rfl⟩
  unfold Cm.bounded at hg
  rw [hq] at hg
  by_cases he : e = 0
  · subst he
    rw [if_neg (by simp)] at hg
    by_cases hb : most.toNat < x ∨ 2147483647 < x
    · rw [if_pos hb] at hg
      simp only [Prod.mk.injEq] at hg
      obtain ⟨rfl, rfl, rfl⟩ := hg
      exact compact_Bounded_big bs x k hq most (by omega) A n c w hr hn hm
    · rw [if_neg hb] at hg
      simp only [Prod.mk.injEq] at hg
      obtain ⟨rfl, rfl, rfl⟩ := hg
      exact compact_Bounded_ok bs x k hq most (by omega) (by omega) A n c w hr hn hm
  · rw [if_pos he] at hg
    simp only [Prod.mk.injEq] at hg
    obtain ⟨rfl, rfl, rfl⟩ := hg
    exact compact_Bounded_bad bs x k e hq (by simp; omega) most A n c w hr hn hm
end Go.Proofs.YtjgdmpbaikhflaaDoor
/- header.number, Get. -/
namespace Go.Proofs.YtjgdmpbaikhflaaDoor
open Go.RowKit
attribute [local go_sem high] slB_lh slB_l slB_h
theorem pow_split32 (k : Nat) (h : 8 * k + 8 ≤ 32) : 2 ^ (8 * k) * 256 ≤ 4294967296 := by
  have : 2 ^ (8 * k + 8) ≤ 2 ^ 32 := Nat.pow_le_pow_right (by omega) h
  rw [Nat.pow_add] at this
  exact this
theorem or_shl_u32 (a b k : Nat) (ha : a < 2 ^ (8 * k)) (hb : b < 256) (hk : 8 * k + 8 ≤ 32) :
    bits .or .u32 (a : Int) (IntKind.u32.wrap (IntKind.u32.wrap (b : Int) * 2 ^ (8 * k))) = ((a + 2 ^ (8 * k) * b : Nat) : Int) := by
  have hp := pow_split32 k hk
  have hq : 2 ^ (8 * k) * b ≤ 2 ^ (8 * k) * 255 := Nat.mul_le_mul_left _ (by omega)
  have e1 : IntKind.u32.wrap (b : Int) = b := wraps_u32 _ (by omega) (by omega)
  have e3 : (b : Int) * 2 ^ (8 * k) = ((2 ^ (8 * k) * b : Nat) : Int) := by rw [Int.natCast_mul, Int.mul_comm (b : Int)]; simp
  generalize hP : 2 ^ (8 * k) = p at *
  have e2 : IntKind.u32.wrap ((p * b : Nat) : Int) = ((p * b : Nat) : Int) := wraps_u32 _ (by omega) (by omega)
  rw [e1, e3, e2]
  rw [bits_join_low .u32 32 (by decide) wraps_u32 (8 * k) (a : Int) ((p * b : Nat) : Int) (by omega) ?_ (by omega) (by omega) ?_ (by omega)]
  · omega
  · rw [show (2 : Int) ^ (8 * k) = ((2 ^ (8 * k) : Nat) : Int) from by simp, hP]; omega
  · rw [show (2 : Int) ^ (8 * k) = ((2 ^ (8 * k) : Nat) : Int) from by simp, hP, ← Int.natCast_emod, Nat.mul_mod_right]; rfl
theorem or_shl_u32m (a b k : Nat) (ha : a < 2 ^ (8 * k)) (hb : b < 256) (hk : 8 * k + 8 ≤ 32) :
    bits .or .u32 (a : Int) ((b : Int) % 4294967296 * 2 ^ (8 * k) % 4294967296) = ((a + 2 ^ (8 * k) * b : Nat) : Int) := by
  have h := or_shl_u32 a b k ha hb hk
  rw [IntKind.wrap_u32, IntKind.wrap_u32] at h
  exact h
theorem le_take_stepN (l : List UInt8) (k : Nat) (h : k < l.length) : Cm.le (l.take (k + 1)) = Cm.le (l.take k) + 2 ^ (8 * k) * l[k].toNat := by
  rw [List.take_succ_eq_append_getElem h, Cm.le_append, List.length_take, Nat.min_eq_left (Nat.le_of_lt h), pow_256]
  simp [Cm.le]
theorem le_take_bndN (l : List UInt8) (k : Nat) : Cm.le (l.take k) < 2 ^ (8 * k) := by
  have h := Cm.le_lt (l.take k)
  rw [pow_256] at h
  refine Nat.lt_of_lt_of_le h (Nat.pow_le_pow_right (by omega) ?_)
  rw [List.length_take]
  omega
set_option maxRecDepth 10000 in
set_option maxHeartbeats 1000000 in
theorem HdNum (x : List UInt8) (m : Nat) (hxm : x.length = m) (h4 : 4 ≤ m) (A : Option Addr) (c : Nat) (w : World) (hrx : Rd w A (x.map bv)) :
    Calls Tryd.prog 31 #[.slice A m c] w fun r w' => r = .returned (.int .u32 (Cm.le (x.take 4) : Int)) ∧ w' = w := by
  replace hxm := Lib.hid hxm
  go_enter Tryd.func31, Tryd.ntmps31
  go_wp2
  go_loop [3, 5] (fun t i => ∃ k : Nat, k ≤ 4 ∧ i = .int .i64 (k : Int) ∧ t = .int .u32 (Cm.le (x.take k) : Int)) (fun _ i => 4 - (intOf i).toNat)
  case atStart => exact ⟨0, by omega, rfl, rfl⟩
  case round =>
    obtain ⟨k, hk, rfl, rfl⟩ := hrel
    by_cases hlt : k < 4
    · have t1 : decide ((k : Int) < 4) = true := by simp; omega
      have hkx : k < x.length := by rw [hxm.out]; omega
      obtain ⟨b, off, rfl⟩ := hrx.someA (by intro h; have := congrArg List.length h; rw [List.length_map, hxm.out] at this; simp at this; omega)
      have hck : w.cell? ⟨b, off + k, none⟩ = some (bv x[k]) := by
        rcases hrx with h | ⟨b', o', hA, hc⟩
        · rw [List.map_eq_nil_iff] at h; rw [h] at hkx; simp at hkx
        · cases hA
          exact hc k _ (by rw [List.getElem?_map, List.getElem?_eq_getElem hkx]; rfl)
      have hstep := Lib.hid (le_take_stepN x k hkx)
      have m0 : 0 ≤ (k : Int) := by omega
      have m1 : (k : Int) < (m : Int) := by omega
      have e1 : IntKind.i64.wrap (8 * (k : Int)) = 8 * (k : Int) := by rw [IntKind.wrap_i64]; omega
      have e2 : 0 ≤ 8 * (k : Int) := by omega
      have e3 : 8 * (k : Int) < 32 := by omega
      have e4 : (8 * (k : Int)).toNat = 8 * k := by omega
      go_wp2
      go_round
      case rel =>
        refine ⟨k + 1, by omega, by go_num, ?_⟩
        rw [or_shl_u32m _ _ _ (le_take_bndN x k) (Cm.u8_lt _) (by omega), ← hstep.out]
      case measure => simp [intOf]; omega
    · obtain rfl : k = 4 := by omega
      go_wp2
      go_ret
      exact ⟨rfl, rfl⟩
end Go.Proofs.YtjgdmpbaikhflaaDoor
