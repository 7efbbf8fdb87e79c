/- merkle's small functions: paired, Width, Height; Clone. -/
import Derived.Test.YtngindljhlbglaaDoorHash
import Derived.Test.YtngindljhlbglaaDoorPr
namespace Go.Proofs.YtngindljhlbglaaDoor
open Go.RowKit

theorem xor_one_nat (k : Nat) : k ^^^ 1 = if k % 2 = 0 then k + 1 else k - 1 := by
  have hd : (k ^^^ 1) / 2 = k / 2 := by
    have := Nat.xor_div_two (a := k) (b := 1)
    simpa using this
  have hm : (k ^^^ 1) % 2 = (k + 1) % 2 := by
    have h := Nat.testBit_xor k 1 0
    rw [Nat.testBit_zero, Nat.testBit_zero, Nat.testBit_zero] at h
    have h2 : ((k ^^^ 1) % 2 = 1) ↔ ¬ (k % 2 = 1) := by
      rw [← decide_eq_true_iff (p := (k ^^^ 1) % 2 = 1), h]
      by_cases hk : k % 2 = 1 <;> simp [hk]
    omega
  split <;> omega
theorem bits_xor_one (k : Nat) (hk : k < 2147483648) : bits .xor .i64 (k : Int) 1 = ((if k % 2 = 0 then k + 1 else k - 1 : Nat) : Int) := by
  rw [← xor_one_nat]
  have h2 : k ^^^ 1 < 2147483648 := Nat.xor_lt_two_pow (n := 31) (by omega) (by omega)
  simp only [bits, IntKind.bits]
  have e : (BitVec.ofInt 64 (k : Int) ^^^ BitVec.ofInt 64 1).toNat = k ^^^ 1 := by
    rw [BitVec.toNat_xor]
    have e1 : (BitVec.ofInt 64 (k : Int)).toNat = k := by simp; omega
    have e2 : (BitVec.ofInt 64 1).toNat = 1 := by decide
    rw [e1, e2]
  have e3 : IntKind.i64.wrap ((BitVec.ofInt 64 (k : Int) ^^^ BitVec.ofInt 64 1).toNat : Int) = ((k ^^^ 1 : Nat) : Int) := by
    rw [e, IntKind.wrap_i64]; omega
  exact e3
theorem paired_of (k n : Nat) (hk : k < 2147483648) (hn : 0 < n) (hn2 : n < 2147483648) (w : World) :
    Calls Tryd.prog 27 #[.int .i64 (k : Int), .int .i64 (n : Int)] w fun e w' => e = .returned (.int .i64 ((min (if k % 2 = 0 then k + 1 else k - 1) (n - 1) : Nat) : Int)) ∧ w' = w := by
  have hx := bits_xor_one k hk
  generalize (if k % 2 = 0 then k + 1 else k - 1) = j at hx ⊢
  have h1 : IntKind.i64.wrap ((n : Int) - 1) = ((n - 1 : Nat) : Int) := by rw [IntKind.wrap_i64]; omega
  obtain ⟨r, hr⟩ : ∃ r, r = min j (n - 1) := ⟨_, rfl⟩
  have h2 : min (j : Int) ((n - 1 : Nat) : Int) = (r : Int) := by omega
  rw [← hr]
  clear hr
  generalize n - 1 = m at h1 h2
  go_enter Tryd.func27, Tryd.ntmps27
  go_wp2
  · go_ret
    exact ⟨by rw [show r = m by omega]; rfl, rfl⟩
  · go_ret
    exact ⟨by rw [show r = j by omega]; rfl, rfl⟩

/-- how many hashes a level has -/
def mWidth (n h : Int) : Int := if h < 0 then 0 else (min (max n 0) 4096 + 2 ^ (min h 12).toNat - 1) / 2 ^ (min h 12).toNat
theorem Width (n h : Int) (w : World) : Calls Tryd.prog 13 #[.int .i64 n, .int .i64 h] w fun e w' => e = .returned (.int .i64 (mWidth n h)) ∧ w' = w := by
  by_cases hh : h < 0
  · go_enter Tryd.func13, Tryd.ntmps13
    go_wp2
    go_ret
    exact ⟨by rw [mWidth, if_pos hh]; rfl, rfl⟩
  · have h0 : 0 ≤ h := by omega
    by_cases h12 : 12 < h
    · have hm : min h 12 = 12 := by omega
      rw [mWidth, if_neg hh, hm]
      go_enter Tryd.func13, Tryd.ntmps13
      go_wp2
      all_goals
        go_ret
        refine ⟨congrArg (fun x => Ending.returned (Value.int IntKind.i64 x)) ?_, rfl⟩
        omega
    · rcases (show h = 0 ∨ h = 1 ∨ h = 2 ∨ h = 3 ∨ h = 4 ∨ h = 5 ∨ h = 6 ∨ h = 7 ∨ h = 8 ∨ h = 9 ∨ h = 10 ∨ h = 11 ∨ h = 12 by omega) with rfl | rfl | rfl | rfl | rfl | rfl | rfl | rfl | rfl | rfl | rfl | rfl | rfl
      all_goals
        rw [mWidth, if_neg (by decide)]
        first
          | rw [show (2 : Int) ^ (min (0 : Int) 12).toNat = 1 by decide]
          | rw [show (2 : Int) ^ (min (1 : Int) 12).toNat = 2 by decide]
          | rw [show (2 : Int) ^ (min (2 : Int) 12).toNat = 4 by decide]
          | rw [show (2 : Int) ^ (min (3 : Int) 12).toNat = 8 by decide]
          | rw [show (2 : Int) ^ (min (4 : Int) 12).toNat = 16 by decide]
          | rw [show (2 : Int) ^ (min (5 : Int) 12).toNat = 32 by decide]
          | rw [show (2 : Int) ^ (min (6 : Int) 12).toNat = 64 by decide]
          | rw [show (2 : Int) ^ (min (7 : Int) 12).toNat = 128 by decide]
          | rw [show (2 : Int) ^ (min (8 : Int) 12).toNat = 256 by decide]
          | rw [show (2 : Int) ^ (min (9 : Int) 12).toNat = 512 by decide]
          | rw [show (2 : Int) ^ (min (10 : Int) 12).toNat = 1024 by decide]
          | rw [show (2 : Int) ^ (min (11 : Int) 12).toNat = 2048 by decide]
          | rw [show (2 : Int) ^ (min (12 : Int) 12).toNat = 4096 by decide]
        go_enter Tryd.func13, Tryd.ntmps13
        go_wp2
        all_goals
          go_ret
          refine ⟨congrArg (fun x => Ending.returned (Value.int IntKind.i64 x)) ?_, rfl⟩
          omega
theorem Height (n : Int) (k : Nat) (h12 : k ≤ 12) (hlo : ∀ j : Nat, j < k → 1 < mWidth n j) (hhi : mWidth n k ≤ 1) (w : World) : Calls Tryd.prog 12 #[.int .i64 n] w fun e w' => e = .returned (.int .i64 (k : Int)) ∧ w' = w := by
  have HW := Lib.hid (fun (h : Int) w => Width n h w)
  go_enter Tryd.func12, Tryd.ntmps12
  go_wp2
  go_loopw [3] (fun i wr => ∃ j : Nat, j ≤ k ∧ i = .int .i64 (j : Int) ∧ wr = w) (fun i _ => k - (intOf i).toNat)
  case atStart => exact ⟨0, by omega, rfl, rfl⟩
  case round =>
    obtain ⟨j, hj, rfl, rfl⟩ := hrel
    by_cases hjk : j < k
    · have h1 := hlo j hjk
      have h2 : decide (1 < mWidth n j) = true := by simpa using h1
      go_wp2_with (go_at_call 13; refine (HW.out _ _).mono ?_; rintro e w' ⟨rfl, rfl⟩)
      refine ⟨⟨j + 1, by omega, by go_num, trivial⟩, ?_⟩
      simp [intOf]; omega
    · obtain rfl : j = k := by omega
      have h2 : decide (1 < mWidth n j) = false := by simp; omega
      go_wp2_with (go_at_call 13; refine (HW.out _ _).mono ?_; rintro e w' ⟨rfl, rfl⟩)
      go_ret
      exact ⟨rfl, rfl⟩

theorem nilH_eq (w : World) (A : Option Addr) (n c n' c' : Nat) : (binOp .eql 22 (.slice A n c) (.slice none n' c')).run Tryd.prog w = .ok (.bool A.isNone) w :=
  Lib.run_eql_slice_nil w _ _ A n c n' c' Tryd.underlying22
attribute [local go_sem high] nilH_eq
set_option maxHeartbeats 400000 in
theorem CloneH (l : List (List UInt8)) (h32 : All32 l) (A : Option Addr) (n c : Nat) (w : World) (hr : Rd w A (hcl l)) (hn : l.length = n) (hm : n ≤ 100000) :
    Calls Tryd.prog 31 #[.slice A n c] w fun e w' => ∃ v, e = .returned v ∧ w'.ownsRow w.heap.size 25 32 v n (hcl l) ∧ Below w.heap.size w w' := by
  cases A with
  | none =>
    have hb : l = [] := by
      rcases hr with h | ⟨_, _, h, _⟩
      · cases l with
        | nil => rfl
        | cons x l => exact absurd h (hcl_ne h32 (by simp))
      · cases h
    subst hb
    subst hn
    clear hm hr
    have hnn : (none : Option Addr).isNone = true := rfl
    go_enter Tryd.func31, Tryd.ntmps31
    go_wp2
    go_ret
    exact ⟨_, rfl, World.ownsRow_nil _ _ _ _, Below.refl _ _⟩
  | some a =>
    have hmade : (w.alloc (.cells #[] 25)).ownsRow w.heap.size 25 32 (.slice (some ⟨w.heap.size, 0, none⟩) 0 0) 0 (hcl []) := World.ownsRow_made w #[] 0 (Nat.le_refl _) (by simp [maxLen]) rfl
    have hb1 := (Below.refl w.heap.size w).alloc (Nat.le_refl _) (.cells #[] 25)
    have hr1 := hr.below hb1
    have hnn : (some a : Option Addr).isNone = false := rfl
    have Hn := Lib.hid hn
    clear hn
    go_enter Tryd.func31, Tryd.ntmps31
    go_wp2_with (at_builtin; refine wpList_appH hmade hb1 (by simp) h32 n c hr1 Hn.out (by omega) rfl (.tmp 5) (.tmp 6) rfl rfl rfl ?_; intro v1 w1 hown1 hb2 hz2 _ _)
    go_ret
    rw [List.nil_append, Nat.zero_add] at hown1
    exact ⟨_, rfl, hown1, hb2⟩
end Go.Proofs.YtngindljhlbglaaDoor
