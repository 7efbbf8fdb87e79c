/- Layer 4: Bytes; bytes.Clone. -/
import Derived.Test.YtopgljkfoogihaaDoorSl
import Derived.Test.YtopgljkfoogihaaDoorCGet
namespace Go.Proofs.YtopgljkfoogihaaDoor
open Go.RowKit
attribute [local go_sem high] slB_lh slB_l slB_h nilB_eq

set_option maxHeartbeats 400000 in
theorem bytes_Clone (bs : List UInt8) (A : Option Addr) (n c : Nat) (w : World) (hr : Rd w A (bs.map bv)) (hn : bs.length = n) (hm : (n : Int) ≤ 140737488355000) :
    Calls Tryd.prog 55 #[.slice A n c] w fun e w' => ∃ v, e = .returned v ∧ OwnB w' w.heap.size v bs ∧ Below w.heap.size w w' := by
  cases A with
  | none =>
    have hb : bs = [] := by
      rcases hr with h | ⟨_, _, h, _⟩
      · simpa using h
      · cases h
    subst hb
    clear hn hm hr
    have hnn : (none : Option Addr).isNone = true := rfl
    go_enter Tryd.func55, Tryd.ntmps55
    go_wp2
    go_ret
    exact ⟨_, rfl, OwnB.nil _ _, Below.refl _ _⟩
  | some a =>
    have hmade := OwnB.made w w.heap.size (Nat.le_refl _) #[] 0 (by simp only [maxLen]; omega) rfl
    have hb1 := (Below.refl w.heap.size w).alloc (Nat.le_refl _) (.cells #[] 5)
    have hr1 := hr.below hb1
    have hnn : (some a : Option Addr).isNone = false := rfl
    have Hn := Lib.hid hn
    clear hn
    go_enter Tryd.func55, Tryd.ntmps55
    go_wp2_with (at_builtin; refine wpList_appB hmade hb1 (by simp) n c hr1 Hn.out (by simp; omega) rfl (.tmp 5) (.tmp 6) rfl rfl rfl ?_; intro v1 w1 hown1 hb2 hz2 _)
    go_ret
    exact ⟨_, rfl, hown1, hb2⟩

/-- what Bounded tells goes on as it is -/
theorem compact_Bytes_bad (bs : List UInt8) (most : Int) (hlo : -9223372036854775808 ≤ most) (hmo : most ≤ 9223372036854775807) (X K E : Nat) (hg : Cm.bounded bs most.toNat = (X, K, E)) (hE : ((E : Int) != 0) = true) (A : Option Addr) (n c : Nat) (w : World) (hr : Rd w A (bs.map bv)) (hn : bs.length = n) (hm : (n : Int) ≤ 140737488355000) :
    Calls Tryd.prog 46 #[.slice A n c, .int .i64 most] w fun e w' => e = .returned (.tuple #[.slice none 0 0, .int .i64 0, .int .i64 (E : Int)]) ∧ w = w' := by
  by_cases hneg : most < 0
  · have H := Lib.hid (compact_Bounded bs 0 (by omega) X K E (by rw [show (0 : Int).toNat = most.toNat from by omega]; exact hg) A n c w hr hn (by omega))
    clear hg hr hn
    go_enter Tryd.func46, Tryd.ntmps46
    go_wp2_with (go_at_call 45; refine (H.out).mono ?_; rintro e w' ⟨rfl, rfl⟩)
    go_ret3
    exact ⟨rfl, rfl⟩
  · have H := Lib.hid (compact_Bounded bs most (by omega) X K E hg A n c w hr hn (by omega))
    have hpos : 0 ≤ most := by omega
    clear hg hr hn hneg
    go_enter Tryd.func46, Tryd.ntmps46
    go_wp2_with (go_at_call 45; refine (H.out).mono ?_; rintro e w' ⟨rfl, rfl⟩)
    go_ret3
    exact ⟨rfl, rfl⟩
theorem compact_Bytes_neg (bs : List UInt8) (most : Int) (hlo : -9223372036854775808 ≤ most) (hneg : most < 0) (X K : Nat) (hg : Cm.bounded bs most.toNat = (X, K, 0)) (A : Option Addr) (n c : Nat) (w : World) (hr : Rd w A (bs.map bv)) (hn : bs.length = n) (hm : (n : Int) ≤ 140737488355000) :
    Calls Tryd.prog 46 #[.slice A n c, .int .i64 most] w fun e w' => e = .returned (.tuple #[.slice none 0 0, .int .i64 0, .int .i64 3]) ∧ w = w' := by
  have H := Lib.hid (compact_Bounded bs 0 (by omega) X K 0 (by rw [show (0 : Int).toNat = most.toNat from by omega]; exact hg) A n c w hr hn (by omega))
  clear hg hr hn
  go_enter Tryd.func46, Tryd.ntmps46
  go_wp2_with (go_at_call 45; refine (H.out).mono ?_; rintro e w' ⟨rfl, rfl⟩)
  go_ret3
  exact ⟨rfl, rfl⟩
theorem compact_Bytes_short (bs : List UInt8) (most : Int) (hpos : 0 ≤ most) (hmo : most ≤ 9223372036854775807) (X K : Nat) (hg : Cm.bounded bs most.toNat = (X, K, 0)) (A : Option Addr) (n c : Nat) (w : World) (hr : Rd w A (bs.map bv)) (hn : bs.length = n) (hm : (n : Int) ≤ 140737488355000)
    (hX : X ≤ 2147483647) (hK : K ≤ n) (hlt : (n : Int) - K < X) :
    Calls Tryd.prog 46 #[.slice A n c, .int .i64 most] w fun e w' => e = .returned (.tuple #[.slice none 0 0, .int .i64 0, .int .i64 1]) ∧ w = w' := by
  have H := Lib.hid (compact_Bounded bs most (by omega) X K 0 hg A n c w hr hn (by omega))
  clear hg hr hn
  go_enter Tryd.func46, Tryd.ntmps46
  go_wp2_with (go_at_call 45; refine (H.out).mono ?_; rintro e w' ⟨rfl, rfl⟩)
  go_ret3
  exact ⟨rfl, rfl⟩
theorem compact_Bytes_ok (bs : List UInt8) (most : Int) (hpos : 0 ≤ most) (hmo : most ≤ 9223372036854775807) (X K : Nat) (hg : Cm.bounded bs most.toNat = (X, K, 0)) (A : Option Addr) (n c : Nat) (w : World) (hr : Rd w A (bs.map bv)) (hn : bs.length = n) (hc : n ≤ c) (hm : (n : Int) ≤ 140737488355000)
    (hX : X ≤ 2147483647) (hlt : K + X ≤ n) :
    Calls Tryd.prog 46 #[.slice A n c, .int .i64 most] w fun e w' => ∃ v, e = .returned (.tuple #[v, .int .i64 ((K + X : Nat) : Int), .int .i64 0]) ∧ OwnB w' w.heap.size v ((bs.drop K).take X) ∧ Below w.heap.size w w' := by
  have H := Lib.hid (compact_Bounded bs most (by omega) X K 0 hg A n c w hr hn (by omega))
  have hsub := (hr.sub c K 1 (by simp; omega)).take X
  rw [Nat.mul_one, ← List.map_drop, ← List.map_take] at hsub
  have H2 := Lib.hid (bytes_Clone ((bs.drop K).take X) (subA A c K 1) X (c - K) w hsub (by simp; omega) (by omega))
  have hge : ¬ (n : Int) - K < X := by omega
  have b1 : (0 : Int) ≤ (K : Int) := by omega
  have b2 : (K : Int) ≤ (K : Int) + (X : Int) := by omega
  have b3 : (K : Int) + (X : Int) ≤ (c : Int) := by omega
  clear hg hr hn hsub
  go_enter Tryd.func46, Tryd.ntmps46
  go_wp2_with fail
  refine (H.out).mono ?_
  rintro e w' ⟨rfl, rfl⟩
  go_wp2_with fail
  rw [show K + X - K = X from by omega]
  refine (H2.out).mono ?_
  rintro e w' ⟨v, rfl, ho, hb⟩
  go_wp2_with fail
  go_ret3
  exact ⟨_, rfl, ho, hb⟩
/-- compact.Bytes -/
theorem compact_Bytes (bs : List UInt8) (most : Int) (hlo : -9223372036854775808 ≤ most) (hmo : most ≤ 9223372036854775807) (O : List UInt8) (K E : Nat) (hg : Cm.bytes bs most = (O, K, E)) (A : Option Addr) (n c : Nat) (w : World) (hr : Rd w A (bs.map bv)) (hn : bs.length = n) (hc : n ≤ c) (hm : (n : Int) ≤ 140737488355000) :
    Calls Tryd.prog 46 #[.slice A n c, .int .i64 most] w fun e w' => ∃ v, e = .returned (.tuple #[v, .int .i64 (K : Int), .int .i64 (E : Int)]) ∧ OwnB w' w.heap.size v O ∧ Below w.heap.size w w' := by
  obtain ⟨x, k, e, hq⟩ : ∃ x k e, Cm.bounded bs most.toNat = (x, k, e) := ⟨_, _, _, rfl⟩
  unfold Cm.bytes at hg
  rw [hq] at hg
  by_cases he : e = 0
  · subst he
    rw [if_neg (by simp)] at hg
    have hbd := Cm.bounded_le bs most.toNat
    rw [hq] at hbd
    dsimp only at hbd
    by_cases hneg : most < 0
    · rw [if_pos hneg] at hg
      simp only [Prod.mk.injEq] at hg
      obtain ⟨rfl, rfl, rfl⟩ := hg
      refine (compact_Bytes_neg bs most hlo hneg x k hq A n c w hr hn hm).mono ?_
      rintro e w' ⟨rfl, rfl⟩
      exact ⟨_, rfl, OwnB.nil _ _, Below.refl _ _⟩
    · rw [if_neg hneg] at hg
      by_cases hs : bs.length - k < x
      · rw [if_pos hs] at hg
        simp only [Prod.mk.injEq] at hg
        obtain ⟨rfl, rfl, rfl⟩ := hg
        refine (compact_Bytes_short bs most (by omega) hmo x k hq A n c w hr hn hm (by omega) (by omega) (by omega)).mono ?_
        rintro e w' ⟨rfl, rfl⟩
        exact ⟨_, rfl, OwnB.nil _ _, Below.refl _ _⟩
      · rw [if_neg hs] at hg
        simp only [Prod.mk.injEq] at hg
        obtain ⟨rfl, rfl, rfl⟩ := hg
        exact compact_Bytes_ok bs most (by omega) hmo x k hq A n c w hr hn hc hm (by omega) (by omega)
  · rw [if_pos he] at hg
    simp only [Prod.mk.injEq] at hg
    obtain ⟨rfl, rfl, rfl⟩ := hg
    refine (compact_Bytes_bad bs most hlo hmo x k e hq (by simp; omega) A n c w hr hn hm).mono ?_
    rintro e w' ⟨rfl, rfl⟩
    exact ⟨_, rfl, OwnB.nil _ _, Below.refl _ _⟩
end Go.Proofs.YtopgljkfoogihaaDoor
