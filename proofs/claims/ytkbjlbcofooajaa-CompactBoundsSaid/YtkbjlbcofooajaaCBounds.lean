/- Layer 4: the law 'a number is told just if it is no more than may be': its walk. -/
import Derived.Test.YtkbjlbcofooajaaCLaw0
namespace Go.Proofs.Ytkbjlbcofooajaa
open Go.RowKit

theorem size_mono (n m : Int) (h0 : 0 ≤ n) (h : n ≤ m) : Cm.size n.toNat ≤ Cm.size m.toNat := by
  rcases size_int n h0 with c | c | c | c <;> rcases size_int m (by omega) with d | d | d | d <;> omega

set_option maxHeartbeats 1000000 in
theorem bounds_walk (n m most : Int) (h0 : 0 ≤ n) (h1 : n < 18446744073709551616) (hm0 : 0 ≤ m) (hq0 : 0 ≤ most) (O : List UInt8) (hO : Cm.put n.toNat = O) (S : Nat) (hS : Cm.size n.toNat = S) (T : Nat) (hT : Cm.size m.toNat = T)
    (X K E : Int) (ok : Bool) (hok : ok = true → n ≤ most ∧ n < 2147483648 ∧ X = n ∧ K = S ∧ E = 0) (hno : ok = false → ¬ (n ≤ most ∧ n < 2147483648) ∧ X = 0 ∧ K = 0 ∧ E = 3)
    (HB : Hid (∀ (A : Option Addr) (c : Nat) (w : World), Rd w A (O.map bv) → Calls Try.prog 12 #[.slice A S c, .int .u64 most] w fun e w' => e = .returned (.tuple #[.int .i64 X, .int .i64 K, .int .i64 E]) ∧ w = w'))
    (w : World) :
    Calls Try.prog 5 #[.int .u64 n, .int .u64 m, .int .u64 most] w fun e w' => e = .returned (.bool true) ∧ Below w.heap.size w w' := by
  have hlen : O.length = S := by rw [← hO, ← hS, Cm.put_length]
  have HP := Lib.hid (fun w => compact_Put [] none 0 0 n h0 O (by simpa using hO) w (Rd.nil w none) rfl (by omega))
  have H1 := Lib.hid (fun w => compact_Size n h0 w)
  have H2 := Lib.hid (fun w => compact_Size m hm0 w)
  rw [hS] at H1
  rw [hT] at H2
  have Hl := Lib.hid hlen
  have Hle := Lib.hid (fun h : n ≤ m => size_mono n m h0 h)
  rw [hS, hT] at Hle
  have hS9 : S ≤ 9 := by have := Cm.size_le n.toNat; omega
  have hT9 : T ≤ 9 := by have := Cm.size_le m.toNat; omega
  clear h1
  have hn0 : n ≤ m → S ≤ T := fun h => Hle.out h
  cases ok
  · obtain ⟨k1, k2, k3, k4⟩ := hno rfl
    subst k2 k3 k4
    clear hok hno hO hS hT hlen
    by_cases hnm : m < n
    · clear hn0
      by_cases hq : n ≤ most
      · have hbig : ¬ n < 2147483648 := fun h => k1 ⟨hq, h⟩
        clear k1
        go_enter Try.func5, Try.ntmps5
        go_wp2_with (go_at_call 8; refine (law_awake _).mono ?_; rintro e w1 ⟨rfl, hb1⟩)
        refine (HP.out _).mono ?_
        rintro e w2 ⟨v, rfl, ho, hb2⟩
        obtain ⟨A, c, rfl, hc1, hc2⟩ := ho.formN S Hl.out
        have HB' := Lib.hid (HB.out A c w2 ho.rd)
        go_wp2_with fail
        refine (HB'.out).mono ?_
        rintro e w' ⟨rfl, rfl⟩
        go_wp2_with fail
        refine (HP.out _).mono ?_
        rintro e w3 ⟨v, rfl, ho3, hb3⟩
        obtain ⟨A3, c3, rfl, hc3, hc4⟩ := ho3.formN S Hl.out
        go_wp2_with fail
        refine (H1.out _).mono ?_
        rintro e w' ⟨rfl, rfl⟩
        go_wp2_with fail
        go_ret
        exact ⟨rfl, (hb1.trans (hb2.mono hb1.size)).trans (hb3.mono (by have := hb1.size; have := hb2.size; omega))⟩
      · clear k1
        go_enter Try.func5, Try.ntmps5
        go_wp2_with (go_at_call 8; refine (law_awake _).mono ?_; rintro e w1 ⟨rfl, hb1⟩)
        refine (HP.out _).mono ?_
        rintro e w2 ⟨v, rfl, ho, hb2⟩
        obtain ⟨A, c, rfl, hc1, hc2⟩ := ho.formN S Hl.out
        have HB' := Lib.hid (HB.out A c w2 ho.rd)
        go_wp2_with fail
        refine (HB'.out).mono ?_
        rintro e w' ⟨rfl, rfl⟩
        go_wp2_with fail
        refine (HP.out _).mono ?_
        rintro e w3 ⟨v, rfl, ho3, hb3⟩
        obtain ⟨A3, c3, rfl, hc3, hc4⟩ := ho3.formN S Hl.out
        go_wp2_with fail
        refine (H1.out _).mono ?_
        rintro e w' ⟨rfl, rfl⟩
        go_wp2_with fail
        go_ret
        exact ⟨rfl, (hb1.trans (hb2.mono hb1.size)).trans (hb3.mono (by have := hb1.size; have := hb2.size; omega))⟩
    · have hst : (S : Int) ≤ (T : Int) := by have := hn0 (by omega); omega
      clear hn0
      by_cases hq : n ≤ most
      · have hbig : ¬ n < 2147483648 := fun h => k1 ⟨hq, h⟩
        clear k1
        go_enter Try.func5, Try.ntmps5
        go_wp2_with (go_at_call 8; refine (law_awake _).mono ?_; rintro e w1 ⟨rfl, hb1⟩)
        refine (HP.out _).mono ?_
        rintro e w2 ⟨v, rfl, ho, hb2⟩
        obtain ⟨A, c, rfl, hc1, hc2⟩ := ho.formN S Hl.out
        have HB' := Lib.hid (HB.out A c w2 ho.rd)
        go_wp2_with fail
        refine (HB'.out).mono ?_
        rintro e w' ⟨rfl, rfl⟩
        go_wp2_with fail
        refine (H1.out _).mono ?_
        rintro e w' ⟨rfl, rfl⟩
        go_wp2_with fail
        refine (H2.out _).mono ?_
        rintro e w' ⟨rfl, rfl⟩
        go_wp2_with fail
        refine (HP.out _).mono ?_
        rintro e w3 ⟨v, rfl, ho3, hb3⟩
        obtain ⟨A3, c3, rfl, hc3, hc4⟩ := ho3.formN S Hl.out
        go_wp2_with fail
        refine (H1.out _).mono ?_
        rintro e w' ⟨rfl, rfl⟩
        go_wp2_with fail
        go_ret
        exact ⟨rfl, (hb1.trans (hb2.mono hb1.size)).trans (hb3.mono (by have := hb1.size; have := hb2.size; omega))⟩
      · clear k1
        go_enter Try.func5, Try.ntmps5
        go_wp2_with (go_at_call 8; refine (law_awake _).mono ?_; rintro e w1 ⟨rfl, hb1⟩)
        refine (HP.out _).mono ?_
        rintro e w2 ⟨v, rfl, ho, hb2⟩
        obtain ⟨A, c, rfl, hc1, hc2⟩ := ho.formN S Hl.out
        have HB' := Lib.hid (HB.out A c w2 ho.rd)
        go_wp2_with fail
        refine (HB'.out).mono ?_
        rintro e w' ⟨rfl, rfl⟩
        go_wp2_with fail
        refine (H1.out _).mono ?_
        rintro e w' ⟨rfl, rfl⟩
        go_wp2_with fail
        refine (H2.out _).mono ?_
        rintro e w' ⟨rfl, rfl⟩
        go_wp2_with fail
        refine (HP.out _).mono ?_
        rintro e w3 ⟨v, rfl, ho3, hb3⟩
        obtain ⟨A3, c3, rfl, hc3, hc4⟩ := ho3.formN S Hl.out
        go_wp2_with fail
        refine (H1.out _).mono ?_
        rintro e w' ⟨rfl, rfl⟩
        go_wp2_with fail
        go_ret
        exact ⟨rfl, (hb1.trans (hb2.mono hb1.size)).trans (hb3.mono (by have := hb1.size; have := hb2.size; omega))⟩
  · obtain ⟨q1, q2, k2, k3, k4⟩ := hok rfl
    subst k2 k3 k4
    clear hok hno hO hS hT hlen
    by_cases hnm : m < X
    · clear hn0
      go_enter Try.func5, Try.ntmps5
      go_wp2_with (go_at_call 8; refine (law_awake _).mono ?_; rintro e w1 ⟨rfl, hb1⟩)
      refine (HP.out _).mono ?_
      rintro e w2 ⟨v, rfl, ho, hb2⟩
      obtain ⟨A, c, rfl, hc1, hc2⟩ := ho.formN S Hl.out
      have HB' := Lib.hid (HB.out A c w2 ho.rd)
      go_wp2_with fail
      refine (HB'.out).mono ?_
      rintro e w' ⟨rfl, rfl⟩
      go_wp2_with fail
      refine (H1.out _).mono ?_
      rintro e w' ⟨rfl, rfl⟩
      go_wp2_with fail
      refine (HP.out _).mono ?_
      rintro e w3 ⟨v, rfl, ho3, hb3⟩
      obtain ⟨A3, c3, rfl, hc3, hc4⟩ := ho3.formN S Hl.out
      go_wp2_with fail
      refine (H1.out _).mono ?_
      rintro e w' ⟨rfl, rfl⟩
      go_wp2_with fail
      go_ret
      exact ⟨rfl, (hb1.trans (hb2.mono hb1.size)).trans (hb3.mono (by have := hb1.size; have := hb2.size; omega))⟩
    · have hst : (S : Int) ≤ (T : Int) := by have := hn0 (by omega); omega
      clear hn0
      go_enter Try.func5, Try.ntmps5
      go_wp2_with (go_at_call 8; refine (law_awake _).mono ?_; rintro e w1 ⟨rfl, hb1⟩)
      refine (HP.out _).mono ?_
      rintro e w2 ⟨v, rfl, ho, hb2⟩
      obtain ⟨A, c, rfl, hc1, hc2⟩ := ho.formN S Hl.out
      have HB' := Lib.hid (HB.out A c w2 ho.rd)
      go_wp2_with fail
      refine (HB'.out).mono ?_
      rintro e w' ⟨rfl, rfl⟩
      go_wp2_with fail
      refine (H1.out _).mono ?_
      rintro e w' ⟨rfl, rfl⟩
      go_wp2_with fail
      refine (H1.out _).mono ?_
      rintro e w' ⟨rfl, rfl⟩
      go_wp2_with fail
      refine (H2.out _).mono ?_
      rintro e w' ⟨rfl, rfl⟩
      go_wp2_with fail
      refine (HP.out _).mono ?_
      rintro e w3 ⟨v, rfl, ho3, hb3⟩
      obtain ⟨A3, c3, rfl, hc3, hc4⟩ := ho3.formN S Hl.out
      go_wp2_with fail
      refine (H1.out _).mono ?_
      rintro e w' ⟨rfl, rfl⟩
      go_wp2_with fail
      go_ret
      exact ⟨rfl, (hb1.trans (hb2.mono hb1.size)).trans (hb3.mono (by have := hb1.size; have := hb2.size; omega))⟩

theorem law_Bounds (n m most : Int) (h0 : 0 ≤ n) (h1 : n < 18446744073709551616) (hm0 : 0 ≤ m) (hq0 : 0 ≤ most) (w : World) :
    Calls Try.prog 5 #[.int .u64 n, .int .u64 m, .int .u64 most] w fun e w' => e = .returned (.bool true) ∧ Below w.heap.size w w' := by
  have hg := Cm.get_put n.toNat (by omega) []
  rw [List.append_nil] at hg
  have hlen := Cm.put_length n.toNat
  have hS := Cm.size_le n.toNat
  by_cases hok : n ≤ most ∧ n < 2147483648
  · refine bounds_walk n m most h0 h1 hm0 hq0 _ rfl _ rfl _ rfl n (Cm.size n.toNat) 0 true (fun _ => ⟨hok.1, hok.2, rfl, rfl, rfl⟩) (fun h => by cases h) (Lib.hid fun A c w hr => ?_) w
    have hb : Cm.bounded (Cm.put n.toNat) most.toNat = (n.toNat, Cm.size n.toNat, 0) := by
      unfold Cm.bounded
      rw [hg, if_neg (by simp), if_neg (by dsimp only; omega)]
    have h := compact_Bounded _ most hq0 _ _ _ hb A _ c w hr hlen (by omega)
    rw [Int.toNat_of_nonneg h0] at h
    exact h
  · refine bounds_walk n m most h0 h1 hm0 hq0 _ rfl _ rfl _ rfl 0 0 3 false (fun h => by cases h) (fun _ => ⟨hok, rfl, rfl, rfl⟩) (Lib.hid fun A c w hr => ?_) w
    have hb : Cm.bounded (Cm.put n.toNat) most.toNat = (0, 0, 3) := by
      unfold Cm.bounded
      rw [hg, if_neg (by simp), if_pos (by dsimp only; omega)]
    exact compact_Bounded _ most hq0 _ _ _ hb A _ c w hr hlen (by omega)
end Go.Proofs.Ytkbjlbcofooajaa
