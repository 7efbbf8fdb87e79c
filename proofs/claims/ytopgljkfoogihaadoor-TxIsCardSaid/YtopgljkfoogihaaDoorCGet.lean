/- Layer 4: Get, Bounded: the walks joined. -/
import Derived.Test.YtopgljkfoogihaaDoorPr3
namespace Go.Proofs.YtopgljkfoogihaaDoor
open Go.RowKit

set_option maxHeartbeats 400000 in
theorem compact_Get_none (A : Option Addr) (c : Nat) (w : World) :
    Calls Tryd.prog 54 #[.slice A 0 c] w fun e w' => e = .returned (.tuple #[.int .u64 0, .int .i64 0, .int .i64 1]) ∧ w = w' := by
  go_enter Tryd.func54, Tryd.ntmps54
  go_wp2
  go_ret3
  exact ⟨rfl, rfl⟩

set_option maxHeartbeats 400000 in
theorem compact_Get_one (x : UInt8) (blk off n c : Nat) (w : World) (hx : Cm.behind x = 0) (hr : 1 ≤ n) (hc : w.cell? ⟨blk, off, none⟩ = some (bv x)) :
    Calls Tryd.prog 54 #[.slice (some ⟨blk, off, none⟩) n c] w fun e w' => e = .returned (.tuple #[.int .u64 (x.toNat : Int), .int .i64 1, .int .i64 0]) ∧ w = w' := by
  have hbh := compact_behind x w
  rw [hx] at hbh
  have H := Lib.hid hbh
  clear hbh hx
  have hnz : ((n : Int) == 0) = false := by simp; omega
  have hx := Cm.u8_lt x
  go_enter Tryd.func54, Tryd.ntmps54
  go_wp2_with (go_at_call 63; refine (H.out).mono ?_; rintro e w' ⟨rfl, rfl⟩)
  go_ret3
  exact ⟨rfl, rfl⟩

set_option maxHeartbeats 400000 in
theorem compact_Get_short (x : UInt8) (blk off m n c : Nat) (w : World) (hx : Cm.behind x = m) (h2 : 2 ≤ m) (h8 : m ≤ 8) (hr : 1 ≤ n) (hn : n < m + 1) (hc : w.cell? ⟨blk, off, none⟩ = some (bv x)) :
    Calls Tryd.prog 54 #[.slice (some ⟨blk, off, none⟩) n c] w fun e w' => e = .returned (.tuple #[.int .u64 0, .int .i64 0, .int .i64 1]) ∧ w = w' := by
  have hbh := compact_behind x w
  rw [hx] at hbh
  have H := Lib.hid hbh
  clear hbh hx
  have hz : ((m : Int) == 0) = false := by simp; omega
  have hnz : ((n : Int) == 0) = false := by simp; omega
  have hlt : decide ((n : Int) < 1 + (m : Int)) = true := by simp; omega
  go_enter Tryd.func54, Tryd.ntmps54
  go_wp2_with (go_at_call 63; refine (H.out).mono ?_; rintro e w' ⟨rfl, rfl⟩)
  go_ret3
  exact ⟨rfl, rfl⟩

/-- compact.Get: what the bytes are got as. -/
theorem compact_Get (bs : List UInt8) (X K E : Nat) (hg : Cm.get bs = (X, K, E)) (A : Option Addr) (n c : Nat) (w : World) (hr : Rd w A (bs.map bv)) (hn : bs.length = n) (hm : (n : Int) ≤ 9223372036854775807) :
    Calls Tryd.prog 54 #[.slice A n c] w fun e w' => e = .returned (.tuple #[.int .u64 (X : Int), .int .i64 (K : Int), .int .i64 (E : Int)]) ∧ w = w' := by
  cases bs with
  | nil =>
    simp only [Cm.get, Prod.mk.injEq] at hg
    obtain ⟨rfl, rfl, rfl⟩ := hg
    obtain rfl : n = 0 := hn.symm
    exact compact_Get_none A c w
  | cons x r =>
    obtain ⟨b, off, rfl, hc⟩ := Rd.cons hr
    have hc0 : w.cell? ⟨b, off, none⟩ = some (bv x) := hc 0 _ rfl
    have hcs : ∀ j (hj : j < r.length), w.cell? ⟨b, off + (1 + j), none⟩ = some (bv r[j]) := fun j hj =>
      hc (1 + j) _ (by rw [Nat.add_comm 1 j]; simp [hj])
    simp only [List.length_cons] at hn
    have hb : Cm.behind x = 0 ∨ (2 ≤ Cm.behind x ∧ Cm.behind x ≤ 8) := by rcases Cm.behind_cases x with h | h | h | h <;> omega
    rcases hb with hb | ⟨h2, h8⟩
    · simp only [Cm.get, if_pos hb, Prod.mk.injEq] at hg
      obtain ⟨rfl, rfl, rfl⟩ := hg
      exact compact_Get_one x b off n c w hb (by omega) hc0
    · have hb : ¬ Cm.behind x = 0 := by omega
      by_cases hl : r.length < Cm.behind x
      · simp only [Cm.get, if_neg hb, if_pos hl, Prod.mk.injEq] at hg
        obtain ⟨rfl, rfl, rfl⟩ := hg
        exact compact_Get_short x b off _ n c w rfl h2 h8 (by omega) (by omega) hc0
      · have h := compact_Get_more x r b off _ n c _ w h2 h8 rfl (by omega) hm hn hc0 hcs rfl _ rfl
        by_cases hs : Cm.size (Cm.le (r.take (Cm.behind x))) = Cm.behind x + 1
        · simp only [Cm.get, if_neg hb, if_neg hl] at hg
          rw [if_neg (by omega)] at hg
          simp only [Prod.mk.injEq] at hg
          obtain ⟨rfl, rfl, rfl⟩ := hg
          rw [decide_eq_true hs] at h
          refine h.mono fun e w' ⟨he, hw⟩ => ⟨?_, hw⟩
          rw [he, if_pos rfl]
          exact ret3i rfl (by omega) rfl
        · simp only [Cm.get, if_neg hb, if_neg hl] at hg
          rw [if_pos (by omega)] at hg
          simp only [Prod.mk.injEq] at hg
          obtain ⟨rfl, rfl, rfl⟩ := hg
          rw [decide_eq_false hs] at h
          exact h.mono fun e w' ⟨he, hw⟩ => ⟨he, hw⟩

set_option maxHeartbeats 400000 in
theorem compact_Bounded_bad (bs : List UInt8) (X K E : Nat) (hg : Cm.get bs = (X, K, E)) (hE : ((E : Int) != 0) = true) (most : Int) (A : Option Addr) (n c : Nat) (w : World) (hr : Rd w A (bs.map bv)) (hn : bs.length = n) (hm : (n : Int) ≤ 9223372036854775807) :
    Calls Tryd.prog 45 #[.slice A n c, .int .u64 most] w fun e w' => e = .returned (.tuple #[.int .i64 0, .int .i64 0, .int .i64 (E : Int)]) ∧ w = w' := by
  have H := Lib.hid (compact_Get bs X K E hg A n c w hr hn hm)
  clear hg hr hn
  go_enter Tryd.func45, Tryd.ntmps45
  go_wp2_with (go_at_call 54; refine (H.out).mono ?_; rintro e w' ⟨rfl, rfl⟩)
  go_ret3
  exact ⟨rfl, rfl⟩

set_option maxHeartbeats 400000 in
theorem compact_Bounded_big (bs : List UInt8) (X K : Nat) (hg : Cm.get bs = (X, K, 0)) (most : Int) (hb : most < X ∨ 2147483647 < (X : Int)) (A : Option Addr) (n c : Nat) (w : World) (hr : Rd w A (bs.map bv)) (hn : bs.length = n) (hm : (n : Int) ≤ 9223372036854775807) :
    Calls Tryd.prog 45 #[.slice A n c, .int .u64 most] w fun e w' => e = .returned (.tuple #[.int .i64 0, .int .i64 0, .int .i64 3]) ∧ w = w' := by
  have H := Lib.hid (compact_Get bs X K 0 hg A n c w hr hn hm)
  clear hg hr hn hm
  generalize (X : Int) = x at *
  by_cases hb1 : most < x
  · clear hb
    go_enter Tryd.func45, Tryd.ntmps45
    go_wp2_with (go_at_call 54; refine (H.out).mono ?_; rintro e w' ⟨rfl, rfl⟩)
    go_ret3
    exact ⟨rfl, rfl⟩
  · have hb2 : 2147483647 < x := by omega
    clear hb
    go_enter Tryd.func45, Tryd.ntmps45
    go_wp2_with (go_at_call 54; refine (H.out).mono ?_; rintro e w' ⟨rfl, rfl⟩)
    go_ret3
    exact ⟨rfl, rfl⟩

set_option maxHeartbeats 400000 in
theorem compact_Bounded_ok (bs : List UInt8) (X K : Nat) (hg : Cm.get bs = (X, K, 0)) (most : Int) (hb1 : ¬ most < X) (hb2 : (X : Int) ≤ 2147483647) (A : Option Addr) (n c : Nat) (w : World) (hr : Rd w A (bs.map bv)) (hn : bs.length = n) (hm : (n : Int) ≤ 9223372036854775807) :
    Calls Tryd.prog 45 #[.slice A n c, .int .u64 most] w fun e w' => e = .returned (.tuple #[.int .i64 (X : Int), .int .i64 (K : Int), .int .i64 0]) ∧ w = w' := by
  have H := Lib.hid (compact_Get bs X K 0 hg A n c w hr hn hm)
  clear hg hr hn hm
  have h0 : 0 ≤ (X : Int) := by omega
  generalize (X : Int) = x at *
  have hb3 : ¬ 2147483647 < x := by omega
  go_enter Tryd.func45, Tryd.ntmps45
  go_wp2_with (go_at_call 54; refine (H.out).mono ?_; rintro e w' ⟨rfl, rfl⟩)
  go_ret3
  exact ⟨rfl, rfl⟩

/-- compact.Bounded -/
theorem compact_Bounded (bs : List UInt8) (most : Int) (h0 : 0 ≤ most) (X K E : Nat) (hg : Cm.bounded bs most.toNat = (X, K, E)) (A : Option Addr) (n c : Nat) (w : World) (hr : Rd w A (bs.map bv)) (hn : bs.length = n) (hm : (n : Int) ≤ 9223372036854775807) :
    Calls Tryd.prog 45 #[.slice A n c, .int .u64 most] w fun e w' => e = .returned (.tuple #[.int .i64 (X : Int), .int .i64 (K : Int), .int .i64 (E : Int)]) ∧ w = w' := by
  obtain ⟨x, k, e, hq⟩ : ∃ x k e, Cm.get bs = (x, k, e) := ⟨_, _, _, rfl⟩
  unfold Cm.bounded at hg
  rw [hq] at hg
  by_cases he : e = 0
  · subst he
    rw [if_neg (by simp)] at hg
    by_cases hb : most.toNat < x ∨ 2147483647 < x
    · rw [if_pos hb] at hg
      simp only [Prod.mk.injEq] at hg
      obtain ⟨rfl, rfl, rfl⟩ := hg
      exact compact_Bounded_big bs x k hq most (by omega) A n c w hr hn hm
    · rw [if_neg hb] at hg
      simp only [Prod.mk.injEq] at hg
      obtain ⟨rfl, rfl, rfl⟩ := hg
      exact compact_Bounded_ok bs x k hq most (by omega) (by omega) A n c w hr hn hm
  · rw [if_pos he] at hg
    simp only [Prod.mk.injEq] at hg
    obtain ⟨rfl, rfl, rfl⟩ := hg
    exact compact_Bounded_bad bs x k e hq (by simp; omega) most A n c w hr hn hm
end Go.Proofs.YtopgljkfoogihaaDoor
