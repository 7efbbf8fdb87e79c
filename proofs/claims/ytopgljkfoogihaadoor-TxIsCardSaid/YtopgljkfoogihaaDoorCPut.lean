/- Layer 4: compact.Put: a number put behind bytes, in new memory. -/
import Derived.Test.YtopgljkfoogihaaDoorApp
import Derived.Test.YtopgljkfoogihaaDoorPr3
namespace Go.Proofs.YtopgljkfoogihaaDoor
open Go.RowKit

theorem made_bytes (n s : Nat) (k : Int) (hk : k = s) (h : (n : Int) + s ≤ 140737488355328) (u : World) :
    (Instr.makeSlice 29 (.int .i64 0) (.int .i64 ((n : Int) + k))).run Tryd.prog u = .ok (.slice (some ⟨u.heap.size, 0, none⟩) 0 (n + s)) (u.alloc (.cells (madeCells #[.int .u8 0] (n + s)) 5)) := by
  subst hk
  obtain ⟨i0, hi, hz0, hz1, hz2⟩ := info_parts info_u8
  have h := run_make (P := Tryd.prog) u 29 5 i0 (.int .u8 0) Tryd.underlying29 hi hz0 .i64 .i64 (0 : Int) ((n : Int) + s) (by omega) (by omega) (by rw [hz2]; omega) (by omega)
  have e : ((n : Int) + s).toNat = n + s := by omega
  rw [e] at h
  simpa [hz1, Value.cells] using h
theorem byte_at (m : Int) (h : 0 ≤ m) (k : Nat) : m / 2 ^ (8 * k) % 256 = ((UInt8.ofNat (m.toNat / 256 ^ k)).toNat : Int) := by
  obtain ⟨n, rfl⟩ := Int.eq_ofNat_of_zero_le h
  have e : (UInt8.ofNat (n / 256 ^ k)).toNat = n / 256 ^ k % 256 := UInt8.toNat_ofNat'
  rw [Int.toNat_natCast, e, pow_256]
  simp
theorem byte_of (m : Int) (h : 0 ≤ m) : m % 256 = ((UInt8.ofNat m.toNat).toNat : Int) := by
  obtain ⟨n, rfl⟩ := Int.eq_ofNat_of_zero_le h
  have e : (UInt8.ofNat n).toNat = n % 256 := UInt8.toNat_ofNat'
  rw [Int.toNat_natCast, e]
  simp

set_option maxHeartbeats 400000 in
theorem compact_Put_1 (bs : List UInt8) (A : Option Addr) (n c : Nat) (m : Int) (h0 : 0 ≤ m) (hsm : Cm.size m.toNat = 1) (w : World) (hr : Rd w A (bs.map bv)) (hn : bs.length = n) (hm : (n : Int) ≤ 140737488355000) :
    Calls Tryd.prog 23 #[.slice A n c, .int .u64 m] w fun e w' => ∃ v, e = .returned v ∧ OwnB w' w.heap.size v (bs ++ [UInt8.ofNat m.toNat]) ∧ Below w.heap.size w w' := by
  have hsz := compact_Size m h0 w
  rw [hsm] at hsz
  have H := Lib.hid hsz
  have Hn := Lib.hid hn
  have hmk := made_bytes n 1 1 rfl (by omega)
  have hle : bs.length + 16 ≤ 140737488355328 := by omega
  have hmade := OwnB.made w w.heap.size (Nat.le_refl _) (madeCells #[.int .u8 0] (n + 1)) (n + 1) (by simp only [maxLen]; omega) (by simp [size_madeCells])
  have hr1 := hr.below ((Below.refl w.heap.size w).alloc (Nat.le_refl _) (.cells (madeCells #[.int .u8 0] (n + 1)) 5))
  have hb1 := (Below.refl w.heap.size w).alloc (Nat.le_refl _) (.cells (madeCells #[.int .u8 0] (n + 1)) 5)
  clear hsz hsm hn
  go_enter Tryd.func23, Tryd.ntmps23
  go_wp2_with (first
    | (go_at_call 40; refine (H.out).mono ?_; rintro e w' ⟨rfl, rfl⟩)
    | (at_builtin; refine wpList_appB hmade hb1 (by simp) n c hr1 Hn.out (by simp; omega) rfl (.tmp 15) (.tmp 16) rfl rfl rfl ?_; intro v1 w1 hown1 hb2 hz2 _)
    | (at_builtin; refine wpList_appB1 hown1 hb2 hb2.size _ (byte_of m h0) (by simp; omega) rfl (.tmp 24) (.tmp 27) rfl rfl rfl ?_; intro v2 w2 hown2 hb3 hz3))
  go_ret
  exact ⟨v2, rfl, hown2, hb3⟩

set_option maxHeartbeats 400000 in
theorem compact_Put_3 (bs : List UInt8) (A : Option Addr) (n c : Nat) (m : Int) (h0 : 0 ≤ m) (hsm : Cm.size m.toNat = 3) (w : World) (hr : Rd w A (bs.map bv)) (hn : bs.length = n) (hm : (n : Int) ≤ 140737488355000) :
    Calls Tryd.prog 23 #[.slice A n c, .int .u64 m] w fun e w' => ∃ v, e = .returned v ∧ OwnB w' w.heap.size v (bs ++ 253 :: Cm.lo 2 m.toNat) ∧ Below w.heap.size w w' := by
  have hsz := compact_Size m h0 w
  rw [hsm] at hsz
  have H := Lib.hid hsz
  have Hn := Lib.hid hn
  have hmk := made_bytes n 3 3 rfl (by omega)
  have hle : bs.length + 16 ≤ 140737488355328 := by omega
  have hmade := OwnB.made w w.heap.size (Nat.le_refl _) (madeCells #[.int .u8 0] (n + 3)) (n + 3) (by simp only [maxLen]; omega) (by simp [size_madeCells])
  have hr1 := hr.below ((Below.refl w.heap.size w).alloc (Nat.le_refl _) (.cells (madeCells #[.int .u8 0] (n + 3)) 5))
  have hb1 := (Below.refl w.heap.size w).alloc (Nat.le_refl _) (.cells (madeCells #[.int .u8 0] (n + 3)) 5)
  clear hsz hsm hn
  go_enter Tryd.func23, Tryd.ntmps23
  go_wp2_with (first
    | (go_at_call 40; refine (H.out).mono ?_; rintro e w' ⟨rfl, rfl⟩)
    | (at_builtin; refine wpList_appB hmade hb1 (by simp) n c hr1 Hn.out (by simp; omega) rfl (.tmp 15) (.tmp 16) rfl rfl rfl ?_; intro v1 w1 hown1 hb2 hz2 _)
    | (at_builtin; refine wpList_appB1 hown1 hb2 hb2.size 253 rfl (by simp; omega) rfl (.tmp 31) (.tmp 32) rfl rfl rfl ?_; intro v2 w2 hown2 hb3 hz3))
  go_loopw [6, 41] (fun v i wr => ∃ k : Nat, k ≤ 2 ∧ i = .int .i64 k ∧ OwnB wr w.heap.size v (bs ++ 253 :: Cm.lo k m.toNat) ∧ Below w.heap.size w wr) (fun _ i _ => 2 - (intOf i).toNat)
  case atStart => exact ⟨0, by omega, rfl, by simpa [Cm.lo] using hown2, hb3⟩
  case round =>
    obtain ⟨k, hk, rfl, ho, hbr⟩ := hrel
    have hll : (Cm.lo k m.toNat).length ≤ 2 := by rw [Cm.lo_length]; exact hk
    by_cases hkm : k < 2
    · go_wp2_with (at_builtin; refine wpList_appB1 ho hbr hbr.size (UInt8.ofNat (m.toNat / 256 ^ k)) (byte_at m h0 k) (by simp; omega) rfl (.tmp 44) (.tmp 50) rfl rfl rfl ?_; intro v3 w3 hown3 hb4 hz4)
      go_roundw
      case rel => exact ⟨k + 1, by omega, by go_num, by rw [Cm.lo_snoc]; simpa using hown3, hb4⟩
      case measure => simp [intOf]; omega
    · obtain rfl : k = 2 := by omega
      go_wp2
      go_ret
      exact ⟨_, rfl, ho, hbr⟩

set_option maxHeartbeats 400000 in
theorem compact_Put_5 (bs : List UInt8) (A : Option Addr) (n c : Nat) (m : Int) (h0 : 0 ≤ m) (hsm : Cm.size m.toNat = 5) (w : World) (hr : Rd w A (bs.map bv)) (hn : bs.length = n) (hm : (n : Int) ≤ 140737488355000) :
    Calls Tryd.prog 23 #[.slice A n c, .int .u64 m] w fun e w' => ∃ v, e = .returned v ∧ OwnB w' w.heap.size v (bs ++ 254 :: Cm.lo 4 m.toNat) ∧ Below w.heap.size w w' := by
  have hsz := compact_Size m h0 w
  rw [hsm] at hsz
  have H := Lib.hid hsz
  have Hn := Lib.hid hn
  have hmk := made_bytes n 5 5 rfl (by omega)
  have hle : bs.length + 16 ≤ 140737488355328 := by omega
  have hmade := OwnB.made w w.heap.size (Nat.le_refl _) (madeCells #[.int .u8 0] (n + 5)) (n + 5) (by simp only [maxLen]; omega) (by simp [size_madeCells])
  have hr1 := hr.below ((Below.refl w.heap.size w).alloc (Nat.le_refl _) (.cells (madeCells #[.int .u8 0] (n + 5)) 5))
  have hb1 := (Below.refl w.heap.size w).alloc (Nat.le_refl _) (.cells (madeCells #[.int .u8 0] (n + 5)) 5)
  clear hsz hsm hn
  go_enter Tryd.func23, Tryd.ntmps23
  go_wp2_with (first
    | (go_at_call 40; refine (H.out).mono ?_; rintro e w' ⟨rfl, rfl⟩)
    | (at_builtin; refine wpList_appB hmade hb1 (by simp) n c hr1 Hn.out (by simp; omega) rfl (.tmp 15) (.tmp 16) rfl rfl rfl ?_; intro v1 w1 hown1 hb2 hz2 _)
    | (at_builtin; refine wpList_appB1 hown1 hb2 hb2.size 254 rfl (by simp; omega) rfl (.tmp 36) (.tmp 37) rfl rfl rfl ?_; intro v2 w2 hown2 hb3 hz3))
  go_loopw [6, 41] (fun v i wr => ∃ k : Nat, k ≤ 4 ∧ i = .int .i64 k ∧ OwnB wr w.heap.size v (bs ++ 254 :: Cm.lo k m.toNat) ∧ Below w.heap.size w wr) (fun _ i _ => 4 - (intOf i).toNat)
  case atStart => exact ⟨0, by omega, rfl, by simpa [Cm.lo] using hown2, hb3⟩
  case round =>
    obtain ⟨k, hk, rfl, ho, hbr⟩ := hrel
    have hll : (Cm.lo k m.toNat).length ≤ 4 := by rw [Cm.lo_length]; exact hk
    by_cases hkm : k < 4
    · go_wp2_with (at_builtin; refine wpList_appB1 ho hbr hbr.size (UInt8.ofNat (m.toNat / 256 ^ k)) (byte_at m h0 k) (by simp; omega) rfl (.tmp 44) (.tmp 50) rfl rfl rfl ?_; intro v3 w3 hown3 hb4 hz4)
      go_roundw
      case rel => exact ⟨k + 1, by omega, by go_num, by rw [Cm.lo_snoc]; simpa using hown3, hb4⟩
      case measure => simp [intOf]; omega
    · obtain rfl : k = 4 := by omega
      go_wp2
      go_ret
      exact ⟨_, rfl, ho, hbr⟩

set_option maxHeartbeats 400000 in
theorem compact_Put_9 (bs : List UInt8) (A : Option Addr) (n c : Nat) (m : Int) (h0 : 0 ≤ m) (hsm : Cm.size m.toNat = 9) (w : World) (hr : Rd w A (bs.map bv)) (hn : bs.length = n) (hm : (n : Int) ≤ 140737488355000) :
    Calls Tryd.prog 23 #[.slice A n c, .int .u64 m] w fun e w' => ∃ v, e = .returned v ∧ OwnB w' w.heap.size v (bs ++ 255 :: Cm.lo 8 m.toNat) ∧ Below w.heap.size w w' := by
  have hsz := compact_Size m h0 w
  rw [hsm] at hsz
  have H := Lib.hid hsz
  have Hn := Lib.hid hn
  have hmk := made_bytes n 9 9 rfl (by omega)
  have hle : bs.length + 16 ≤ 140737488355328 := by omega
  have hmade := OwnB.made w w.heap.size (Nat.le_refl _) (madeCells #[.int .u8 0] (n + 9)) (n + 9) (by simp only [maxLen]; omega) (by simp [size_madeCells])
  have hr1 := hr.below ((Below.refl w.heap.size w).alloc (Nat.le_refl _) (.cells (madeCells #[.int .u8 0] (n + 9)) 5))
  have hb1 := (Below.refl w.heap.size w).alloc (Nat.le_refl _) (.cells (madeCells #[.int .u8 0] (n + 9)) 5)
  clear hsz hsm hn
  go_enter Tryd.func23, Tryd.ntmps23
  go_wp2_with (first
    | (go_at_call 40; refine (H.out).mono ?_; rintro e w' ⟨rfl, rfl⟩)
    | (at_builtin; refine wpList_appB hmade hb1 (by simp) n c hr1 Hn.out (by simp; omega) rfl (.tmp 15) (.tmp 16) rfl rfl rfl ?_; intro v1 w1 hown1 hb2 hz2 _)
    | (at_builtin; refine wpList_appB1 hown1 hb2 hb2.size 255 rfl (by simp; omega) rfl (.tmp 19) (.tmp 20) rfl rfl rfl ?_; intro v2 w2 hown2 hb3 hz3))
  go_loopw [6, 41] (fun v i wr => ∃ k : Nat, k ≤ 8 ∧ i = .int .i64 k ∧ OwnB wr w.heap.size v (bs ++ 255 :: Cm.lo k m.toNat) ∧ Below w.heap.size w wr) (fun _ i _ => 8 - (intOf i).toNat)
  case atStart => exact ⟨0, by omega, rfl, by simpa [Cm.lo] using hown2, hb3⟩
  case round =>
    obtain ⟨k, hk, rfl, ho, hbr⟩ := hrel
    have hll : (Cm.lo k m.toNat).length ≤ 8 := by rw [Cm.lo_length]; exact hk
    by_cases hkm : k < 8
    · go_wp2_with (at_builtin; refine wpList_appB1 ho hbr hbr.size (UInt8.ofNat (m.toNat / 256 ^ k)) (byte_at m h0 k) (by simp; omega) rfl (.tmp 44) (.tmp 50) rfl rfl rfl ?_; intro v3 w3 hown3 hb4 hz4)
      go_roundw
      case rel => exact ⟨k + 1, by omega, by go_num, by rw [Cm.lo_snoc]; simpa using hown3, hb4⟩
      case measure => simp [intOf]; omega
    · obtain rfl : k = 8 := by omega
      go_wp2
      go_ret
      exact ⟨_, rfl, ho, hbr⟩

/-- compact.Put: the bytes, and behind them the number's, in new memory. -/
theorem compact_Put (bs : List UInt8) (A : Option Addr) (n c : Nat) (m : Int) (h0 : 0 ≤ m) (O : List UInt8) (hO : bs ++ Cm.put m.toNat = O) (w : World) (hr : Rd w A (bs.map bv)) (hn : bs.length = n) (hm : (n : Int) ≤ 140737488355000) :
    Calls Tryd.prog 23 #[.slice A n c, .int .u64 m] w fun e w' => ∃ v, e = .returned v ∧ OwnB w' w.heap.size v O ∧ Below w.heap.size w w' := by
  subst hO
  unfold Cm.put
  rcases Cm.size_cases m.toNat with h | h | h | h
  · rw [if_pos h.1]
    exact compact_Put_1 bs A n c m h0 h.2 w hr hn hm
  · rw [if_neg (by omega), Cm.mark, if_pos h.2.1, h.2.2]
    exact compact_Put_3 bs A n c m h0 h.2.2 w hr hn hm
  · rw [if_neg (by omega), Cm.mark, if_neg (by omega), if_pos h.2.1, h.2.2]
    exact compact_Put_5 bs A n c m h0 h.2.2 w hr hn hm
  · rw [if_neg (by omega), Cm.mark, if_neg (by omega), if_neg (by omega), h.2]
    exact compact_Put_9 bs A n c m h0 h.2 w hr hn hm
end Go.Proofs.YtopgljkfoogihaaDoor
