/- CMath; Word; ShTab: put together for the claim. -/
import Derived.Test.YtjgdmpbaikhflaaDoorProg
import Derived.WalkKit
import Derived.WalkSpells
import Derived.WalkLawsBesides
import Derived.Lib.Hide
import Derived.Below
import Derived.Test.YtjgdmpbaikhflaaDoorPr1
/- Plain mathematics of layer 4 (numbers of as few bytes as they need): no program in sight. -/
namespace Go.Proofs.YtjgdmpbaikhflaaDoor.Cm

/-- bytes, the lowest first, as a number -/
def le : List UInt8 → Nat
  | [] => 0
  | b :: r => b.toNat + 256 * le r
/-- so many bytes of a number, the lowest first -/
def lo : Nat → Nat → List UInt8
  | 0, _ => []
  | k + 1, n => UInt8.ofNat n :: lo k (n / 256)
def size (n : Nat) : Nat := if n < 253 then 1 else if n < 65536 then 3 else if n < 4294967296 then 5 else 9
def mark (n : Nat) : UInt8 := if n < 65536 then 253 else if n < 4294967296 then 254 else 255
def put (n : Nat) : List UInt8 := if n < 253 then [UInt8.ofNat n] else mark n :: lo (size n - 1) n
def behind (b : UInt8) : Nat := if b = 253 then 2 else if b = 254 then 4 else if b = 255 then 8 else 0
/-- the number, how many bytes it has, the error -/
def get (l : List UInt8) : Nat × Nat × Nat :=
  match l with
  | [] => (0, 0, 1)
  | b :: r =>
    if behind b = 0 then (b.toNat, 1, 0)
    else if r.length < behind b then (0, 0, 1)
    else if size (le (r.take (behind b))) ≠ 1 + behind b then (0, 0, 2)
    else (le (r.take (behind b)), 1 + behind b, 0)
def bounded (l : List UInt8) (most : Nat) : Nat × Nat × Nat :=
  if (get l).2.2 ≠ 0 then (0, 0, (get l).2.2)
  else if most < (get l).1 ∨ 2147483647 < (get l).1 then (0, 0, 3)
  else get l
def bytes (l : List UInt8) (most : Int) : List UInt8 × Nat × Nat :=
  if (bounded l most.toNat).2.2 ≠ 0 then ([], 0, (bounded l most.toNat).2.2)
  else if most < 0 then ([], 0, 3)
  else if l.length - (bounded l most.toNat).2.1 < (bounded l most.toNat).1 then ([], 0, 1)
  else ((l.drop (bounded l most.toNat).2.1).take (bounded l most.toNat).1, (bounded l most.toNat).2.1 + (bounded l most.toNat).1, 0)

theorem u8_lt (b : UInt8) : b.toNat < 256 := b.toNat_lt
theorem u8_ofNat (n : Nat) (h : n < 256) : (UInt8.ofNat n).toNat = n := by
  simp only [UInt8.toNat_ofNat']; omega
theorem le_append (a b : List UInt8) : le (a ++ b) = le a + 256 ^ a.length * le b := by
  induction a with
  | nil => simp [le]
  | cons x r ih =>
    simp only [List.cons_append, le, ih, List.length_cons, Nat.pow_succ]
    rw [Nat.mul_add, ← Nat.mul_assoc, Nat.mul_comm 256 (256 ^ r.length), Nat.add_assoc]
theorem le_lt (a : List UInt8) : le a < 256 ^ a.length := by
  induction a with
  | nil => simp [le]
  | cons x r ih =>
    have := u8_lt x
    simp only [le, List.length_cons, Nat.pow_succ]
    omega
theorem le_lo (k n : Nat) : le (lo k n) = n % 256 ^ k := by
  induction k generalizing n with
  | zero => simp [lo, le, Nat.mod_one]
  | succ k ih =>
    have e : (UInt8.ofNat n).toNat = n % 256 := UInt8.toNat_ofNat'
    rw [lo, le, ih, e, show 256 ^ (k + 1) = 256 * 256 ^ k from by rw [Nat.pow_succ, Nat.mul_comm], Nat.mod_mul]
theorem lo_length (k n : Nat) : (lo k n).length = k := by
  induction k generalizing n with
  | zero => rfl
  | succ k ih => simp [lo, ih]
theorem lo_le (a : List UInt8) : lo a.length (le a) = a := by
  induction a with
  | nil => rfl
  | cons x r ih =>
    have := u8_lt x
    simp only [List.length_cons, lo, le]
    rw [show (x.toNat + 256 * le r) / 256 = le r from by omega, ih]
    congr 1
    apply UInt8.toNat.inj
    simp only [UInt8.toNat_ofNat']
    omega
theorem lo_snoc (k n : Nat) : lo (k + 1) n = lo k n ++ [UInt8.ofNat (n / 256 ^ k)] := by
  induction k generalizing n with
  | zero => simp [lo]
  | succ k ih =>
    rw [lo, ih (n / 256)]
    simp only [lo, List.cons_append, Nat.pow_succ, Nat.div_div_eq_div_mul, Nat.mul_comm]
theorem size_cases (n : Nat) : (n < 253 ∧ size n = 1) ∨ (253 ≤ n ∧ n < 65536 ∧ size n = 3) ∨ (65536 ≤ n ∧ n < 4294967296 ∧ size n = 5) ∨ (4294967296 ≤ n ∧ size n = 9) := by
  unfold size
  by_cases h1 : n < 253
  · exact .inl ⟨h1, if_pos h1⟩
  · by_cases h2 : n < 65536
    · exact .inr (.inl ⟨by omega, h2, by rw [if_neg h1, if_pos h2]⟩)
    · by_cases h3 : n < 4294967296
      · exact .inr (.inr (.inl ⟨by omega, h3, by rw [if_neg h1, if_neg h2, if_pos h3]⟩))
      · exact .inr (.inr (.inr ⟨by omega, by rw [if_neg h1, if_neg h2, if_neg h3]⟩))
theorem size_le (n : Nat) : 1 ≤ size n ∧ size n ≤ 9 := by rcases size_cases n with h | h | h | h <;> omega
theorem put_length (n : Nat) : (put n).length = size n := by
  unfold put
  rcases size_cases n with h | h | h | h
  · rw [if_pos h.1]; simp [h.2]
  · rw [if_neg (by omega)]; simp only [List.length_cons, lo_length]; omega
  · rw [if_neg (by omega)]; simp only [List.length_cons, lo_length]; omega
  · rw [if_neg (by omega)]; simp only [List.length_cons, lo_length]; omega
theorem behind_cases (b : UInt8) : (b = 253 ∧ behind b = 2) ∨ (b = 254 ∧ behind b = 4) ∨ (b = 255 ∧ behind b = 8) ∨ (b.toNat < 253 ∧ behind b = 0) := by
  unfold behind
  by_cases h1 : b = 253
  · exact .inl ⟨h1, if_pos h1⟩
  · by_cases h2 : b = 254
    · exact .inr (.inl ⟨h2, by rw [if_neg h1, if_pos h2]⟩)
    · by_cases h3 : b = 255
      · exact .inr (.inr (.inl ⟨h3, by rw [if_neg h1, if_neg h2, if_pos h3]⟩))
      · refine .inr (.inr (.inr ⟨?_, by rw [if_neg h1, if_neg h2, if_neg h3]⟩))
        have := u8_lt b
        have e1 : b.toNat ≠ 253 := fun h => h1 (UInt8.toNat.inj h)
        have e2 : b.toNat ≠ 254 := fun h => h2 (UInt8.toNat.inj h)
        have e3 : b.toNat ≠ 255 := fun h => h3 (UInt8.toNat.inj h)
        omega
theorem behind_mark (n : Nat) (h : 253 ≤ n) : behind (mark n) + 1 = size n := by
  unfold mark
  rcases size_cases n with c | c | c | c
  · omega
  · rw [if_pos (by omega)]; rw [c.2.2]; rfl
  · rw [if_neg (by omega), if_pos (by omega)]; rw [c.2.2]; rfl
  · rw [if_neg (by omega), if_neg (by omega)]; rw [c.2]; rfl
theorem pow_size (n : Nat) (h : n < 18446744073709551616) (h2 : 253 ≤ n) : n < 256 ^ (size n - 1) := by
  rcases size_cases n with c | c | c | c
  · omega
  · rw [c.2.2]; omega
  · rw [c.2.2]; omega
  · rw [c.2]; omega
/-- WHAT IS PUT IS GOT AGAIN, whatever stands behind it. -/
theorem get_put (n : Nat) (h : n < 18446744073709551616) (r : List UInt8) : get (put n ++ r) = (n, size n, 0) := by
  by_cases h1 : n < 253
  · have hs : size n = 1 := by unfold size; rw [if_pos h1]
    have hb : behind (UInt8.ofNat n) = 0 := by
      rcases behind_cases (UInt8.ofNat n) with c | c | c | c
      · have := congrArg UInt8.toNat c.1; rw [u8_ofNat n (by omega)] at this; simp at this; omega
      · have := congrArg UInt8.toNat c.1; rw [u8_ofNat n (by omega)] at this; simp at this; omega
      · have := congrArg UInt8.toNat c.1; rw [u8_ofNat n (by omega)] at this; simp at this; omega
      · exact c.2
    simp only [put, if_pos h1, List.singleton_append, get, hb, if_true, u8_ofNat n (show n < 256 by omega), hs]
  · have hb := behind_mark n (by omega)
    have hp := size_le n
    have hl := lo_length (size n - 1) n
    have e : behind (mark n) = size n - 1 := by omega
    have ht : (lo (size n - 1) n ++ r).take (size n - 1) = lo (size n - 1) n := by
      rw [List.take_append_of_le_length (by omega), List.take_of_length_le (by omega)]
    have hn : size n - 1 ≠ 0 := by rcases size_cases n with c | c | c | c <;> omega
    simp only [put, if_neg h1, List.cons_append, get, e, if_neg hn, ht, le_lo, Nat.mod_eq_of_lt (pow_size n h (by omega))]
    rw [if_neg (by simp only [List.length_append]; omega), if_neg (by omega)]
    simp only [Prod.mk.injEq, true_and, and_true]
    omega
/-- WHAT IS GOT IS PUT SO. -/
theorem put_get (l : List UInt8) (h : (get l).2.2 = 0) : put (get l).1 = l.take (get l).2.1 ∧ 1 ≤ (get l).2.1 ∧ (get l).2.1 ≤ l.length ∧ (get l).1 < 18446744073709551616 ∧ (get l).2.1 = size (get l).1 := by
  cases l with
  | nil => simp [get] at h
  | cons b r =>
    by_cases h0 : behind b = 0
    · rcases behind_cases b with c | c | c | c
      · omega
      · omega
      · omega
      · have e : get (b :: r) = (b.toNat, 1, 0) := by simp only [get, if_pos h0]
        rw [e]
        simp only [put, if_pos c.1, size, List.take_succ_cons, List.take_zero, List.length_cons]
        refine ⟨?_, by omega, by omega, by omega, trivial⟩
        congr 1
        apply UInt8.toNat.inj
        rw [u8_ofNat _ (by omega)]
    · by_cases h1 : r.length < behind b
      · simp [get, if_neg h0, if_pos h1] at h
      · by_cases h2 : size (le (r.take (behind b))) ≠ 1 + behind b
        · simp only [get, if_neg h0, if_neg h1, if_pos h2] at h; omega
        · have e : get (b :: r) = (le (r.take (behind b)), 1 + behind b, 0) := by simp only [get, if_neg h0, if_neg h1, if_neg h2]
          rw [e]
          have hlen : (r.take (behind b)).length = behind b := by rw [List.length_take]; omega
          have hlt := le_lt (r.take (behind b))
          have hlo := lo_le (r.take (behind b))
          rw [hlen] at hlt hlo
          generalize le (r.take (behind b)) = n at *
          have hs : size n = 1 + behind b := by omega
          have hbig : n < 18446744073709551616 := by
            rcases behind_cases b with c | c | c | c <;> rw [c.2] at hlt <;> omega
          have hn : ¬ n < 253 := by rcases size_cases n with c | c | c | c <;> omega
          have hm : mark n = b := by
            have hbm := behind_mark n (by omega)
            have e2 : behind (mark n) = behind b := by omega
            rcases behind_cases b with c | c | c | c <;> rcases behind_cases (mark n) with d | d | d | d <;> first | (rw [c.1, d.1]; done) | omega
          simp only [put, if_neg hn, hm, show size n - 1 = behind b from by omega, hlo, List.length_cons]
          refine ⟨?_, by omega, by omega, hbig, by omega⟩
          rw [Nat.add_comm 1, List.take_succ_cons]
theorem get_lt (l : List UInt8) : (get l).1 < 18446744073709551616 ∧ (get l).2.1 ≤ 9 ∧ (get l).2.1 ≤ l.length ∧ (get l).2.2 ≤ 2 := by
  by_cases h : (get l).2.2 = 0
  · have := put_get l h
    have := size_le (get l).1
    omega
  · cases l with
    | nil => simp [get]
    | cons b r =>
      simp only [get] at h ⊢
      split at h
      · simp at h
      · split at h
        · rename_i h1 h2; simp [h1, h2]
        · split at h
          · rename_i h1 h2 h3; simp [h1, h2, h3]
          · simp at h
theorem get_bad (l : List UInt8) (h : (get l).2.2 ≠ 0) : (get l).1 = 0 ∧ (get l).2.1 = 0 := by
  cases l with
  | nil => simp [get]
  | cons b r =>
    by_cases h0 : behind b = 0
    · simp [get, if_pos h0] at h
    · by_cases h1 : r.length < behind b
      · simp [get, if_neg h0, if_pos h1]
      · by_cases h2 : size (le (r.take (behind b))) ≠ 1 + behind b
        · simp [get, if_neg h0, if_neg h1, if_pos h2]
        · simp only [get, if_neg h0, if_neg h1, if_neg h2] at h
          simp at h
theorem bounded_le (l : List UInt8) (most : Nat) : (bounded l most).1 ≤ 2147483647 ∧ (bounded l most).2.1 ≤ l.length := by
  have := get_lt l
  unfold bounded
  by_cases h : (get l).2.2 ≠ 0
  · rw [if_pos h]; exact ⟨by simp, by simp⟩
  · rw [if_neg h]
    by_cases h2 : most < (get l).1 ∨ 2147483647 < (get l).1
    · rw [if_pos h2]; exact ⟨by simp, by simp⟩
    · rw [if_neg h2]; omega
/-- each beginning of what is put is short -/
theorem get_short (n : Nat) (h : n < 18446744073709551616) (i : Nat) (hi : i < size n) : (get ((put n).take i)).2.2 = 1 := by
  cases i with
  | zero => simp [get]
  | succ i =>
    have h1 : ¬ n < 253 := by rcases size_cases n with c | c | c | c <;> omega
    have hb := behind_mark n (by omega)
    have hl := lo_length (size n - 1) n
    simp only [put, if_neg h1, List.take_succ_cons, get]
    rw [if_neg (by rcases size_cases n with c | c | c | c <;> omega), if_pos (by rw [List.length_take]; omega)]
end Go.Proofs.YtjgdmpbaikhflaaDoor.Cm
/- Words of 32 bits as the walk spells them: 'wn x' for the number of x, hidden; the laws that turn the model's arithmetic into that of BitVec 32. -/
namespace Go.Proofs.YtjgdmpbaikhflaaDoor
open Go.RowKit

/-- a word -/
abbrev W32 := BitVec 32
/-- the number of a word, as the walk spells it -/
@[irreducible] def wn (x : W32) : Int := x.toNat
theorem wn_def (x : W32) : wn x = (x.toNat : Int) := by unfold wn; rfl
theorem wn_nonneg (x : W32) : 0 ≤ wn x := by rw [wn_def]; omega
theorem wn_lt (x : W32) : wn x < 4294967296 := by rw [wn_def]; have := x.isLt; omega
theorem wn_inj {x y : W32} (h : wn x = wn y) : x = y := by
  rw [wn_def, wn_def] at h
  exact BitVec.eq_of_toNat_eq (by omega)
/-- the cell of a word -/
abbrev wc (x : W32) : Value := .int .u32 (wn x)
theorem wn_lit (n : Nat) (h : n < 4294967296) : wn (BitVec.ofNat 32 n) = (n : Int) := by
  rw [wn_def, BitVec.toNat_ofNat, Nat.mod_eq_of_lt h]
theorem ofInt_wn (x : W32) : BitVec.ofInt IntKind.u32.bits (wn x) = x := by
  rw [wn_def]; exact BitVec.eq_of_toNat_eq (by simp [IntKind.bits])
theorem wrap_toNat (x : W32) : IntKind.u32.wrap (x.toNat : Int) = wn x := by
  rw [wn_def, IntKind.wrap_u32]; have := x.isLt; omega
theorem bits_xor_wn (x y : W32) : bits .xor .u32 (wn x) (wn y) = wn (x ^^^ y) := by
  simp only [bits, ofInt_wn]; exact wrap_toNat _
theorem bits_and_wn (x y : W32) : bits .and .u32 (wn x) (wn y) = wn (x &&& y) := by
  simp only [bits, ofInt_wn]; exact wrap_toNat _
theorem bits_or_wn (x y : W32) : bits .or .u32 (wn x) (wn y) = wn (x ||| y) := by
  simp only [bits, ofInt_wn]; exact wrap_toNat _
theorem wrap_add_wn (x y : W32) : IntKind.u32.wrap (wn x + wn y) = wn (x + y) := by
  rw [wn_def, wn_def, wn_def, IntKind.wrap_u32, BitVec.toNat_add]; omega
theorem wrap_wn (x : W32) : IntKind.u32.wrap (wn x) = wn x := by rw [wn_def, wrap_toNat, wn_def]
theorem not_wn (x : W32) : IntKind.u32.wrap (-1 - wn x) = wn (~~~x) := by
  rw [wn_def, wn_def, IntKind.wrap_u32, BitVec.toNat_not]; have := x.isLt; omega
theorem shr_wn (x : W32) (k : Nat) : wn x / 2 ^ k = wn (x >>> k) := by
  rw [wn_def, wn_def, BitVec.toNat_ushiftRight, Nat.shiftRight_eq_div_pow]; simp
theorem shl_wn (x : W32) (k : Nat) : IntKind.u32.wrap (wn x * 2 ^ k) = wn (x <<< k) := by
  rw [wn_def, wn_def, IntKind.wrap_u32, BitVec.toNat_shiftLeft, Nat.shiftLeft_eq]
  rw [show (x.toNat : Int) * 2 ^ k = ((x.toNat * 2 ^ k : Nat) : Int) from by simp]
  omega
/-- turned to the right -/
def rotr (x : W32) (k : Nat) : W32 := x <<< (32 - k) ||| x >>> k
theorem and31 (n : Int) (h : -32 < n) (h2 : n < 0) : bits .and .u64 (IntKind.u64.wrap n) 31 = n + 32 := by
  rw [show (31 : Int) = 2 ^ 5 - 1 by decide, bits_mask .u64 64 (by decide) (fun n h0 h1 => by rw [IntKind.wrap_u64]; omega) 5 (by decide) _ (by rw [IntKind.wrap_u64]; omega) (by rw [IntKind.wrap_u64]; omega)]
  rw [IntKind.wrap_u64]; omega
attribute [local go_sem high] bits_or_wn shl_wn shr_wn

theorem RotateLeft32 (x : W32) (k : Nat) (n : Int) (hn : n = -(k : Int)) (hk : 0 < k) (hk2 : k < 32) (w : World) :
    Calls Tryd.prog 79 #[.int .u32 (wn x), .int .i64 n] w fun e w' => e = .returned (.int .u32 (wn (rotr x k))) ∧ w' = w := by
  have e1 := and31 n (by omega) (by omega)
  have e2 : 0 ≤ n + 32 := by omega
  have e3 : 0 ≤ 32 - (n + 32) := by omega
  have e6 : IntKind.u64.wrap (32 - (n + 32)) = k := by rw [IntKind.wrap_u64]; omega
  have e4 : (n + 32).toNat = 32 - k := by omega
  have e5 : min ((k : Int)).toNat IntKind.u32.bits = k := by simp only [IntKind.bits]; omega
  have e7 : (0 : Int) ≤ k := by omega
  clear hn
  go_enter Tryd.func79, Tryd.ntmps79
  go_wp2
  go_ret
  exact ⟨rfl, rfl⟩
theorem turned (x : W32) (k : Nat) (m : Int) (hm : m = k) (hk : 0 < k) (hk2 : k < 32) (w : World) :
    Calls Tryd.prog 72 #[.int .u32 (wn x), .int .i64 m] w fun e w' => e = .returned (.int .u32 (wn (rotr x k))) ∧ w' = w := by
  have e1 : IntKind.i64.wrap (-m) = -m := by rw [IntKind.wrap_i64]; omega
  have h := RotateLeft32 x k (-m) (by omega) hk hk2
  clear hm
  go_enter Tryd.func72, Tryd.ntmps72
  go_wp2_with fail
  refine (h _).mono ?_
  rintro e1 w1 ⟨rfl, rfl⟩
  go_wp2
  go_ret
  exact ⟨rfl, rfl⟩
end Go.Proofs.YtjgdmpbaikhflaaDoor
/- The tables of SHA-256 as the program keeps them: what they hold, and what Constant and Initial answer. -/
namespace Go.Proofs.YtjgdmpbaikhflaaDoor
open Go.RowKit

/-- the constants -/
def kTab : List Nat := [
  0x428a2f98, 0x71374491, 0xb5c0fbcf, 0xe9b5dba5, 0x3956c25b, 0x59f111f1, 0x923f82a4, 0xab1c5ed5,
  0xd807aa98, 0x12835b01, 0x243185be, 0x550c7dc3, 0x72be5d74, 0x80deb1fe, 0x9bdc06a7, 0xc19bf174,
  0xe49b69c1, 0xefbe4786, 0x0fc19dc6, 0x240ca1cc, 0x2de92c6f, 0x4a7484aa, 0x5cb0a9dc, 0x76f988da,
  0x983e5152, 0xa831c66d, 0xb00327c8, 0xbf597fc7, 0xc6e00bf3, 0xd5a79147, 0x06ca6351, 0x14292967,
  0x27b70a85, 0x2e1b2138, 0x4d2c6dfc, 0x53380d13, 0x650a7354, 0x766a0abb, 0x81c2c92e, 0x92722c85,
  0xa2bfe8a1, 0xa81a664b, 0xc24b8b70, 0xc76c51a3, 0xd192e819, 0xd6990624, 0xf40e3585, 0x106aa070,
  0x19a4c116, 0x1e376c08, 0x2748774c, 0x34b0bcb5, 0x391c0cb3, 0x4ed8aa4a, 0x5b9cca4f, 0x682e6ff3,
  0x748f82ee, 0x78a5636f, 0x84c87814, 0x8cc70208, 0x90befffa, 0xa4506ceb, 0xbef9a3f7, 0xc67178f2]
/-- the initial words -/
def iTab : List Nat := [0x6a09e667, 0xbb67ae85, 0x3c6ef372, 0xa54ff53a, 0x510e527f, 0x9b05688c, 0x1f83d9ab, 0x5be0cd19]
def kAt (i : Nat) : W32 := BitVec.ofNat 32 (kTab.getD i 0)
def iAt (i : Nat) : W32 := BitVec.ofNat 32 (iTab.getD i 0)

/-- What the program's tables hold. -/
structure Tabs (w : World) : Prop where
  k : ∀ i, i < 64 → w.cell? ⟨1, i, none⟩ = some (wc (kAt i))
  i : ∀ i, i < 8 → w.cell? ⟨0, i, none⟩ = some (wc (iAt i))
theorem Tabs.below {w w' : World} (h : Tabs w) (hb : Below w.heap.size w w') : Tabs w' :=
  ⟨fun i hi => (hb.cell (p := ⟨1, i, none⟩) (World.block_lt_of_cell? w _ (h.k i hi))).trans (h.k i hi),
   fun i hi => (hb.cell (p := ⟨0, i, none⟩) (World.block_lt_of_cell? w _ (h.i i hi))).trans (h.i i hi)⟩

theorem Constant (i : Int) (h0 : 0 ≤ i) (h1 : i < 64) (w : World) (ht : Tabs w) :
    Calls Tryd.prog 73 #[.int .i64 i] w fun e w' => e = .returned (wc (kAt i.toNat)) ∧ w' = w := by
  have hc : w.cell? ⟨1, i.toNat, none⟩ = some (wc (kAt i.toNat)) := ht.k _ (by omega)
  have t1 : decide (i < 0) = false := by simp; omega
  have t2 : decide (63 < i) = false := by simp; omega
  go_enter Tryd.func73, Tryd.ntmps73
  go_wp2
  go_ret
  exact ⟨rfl, rfl⟩
theorem Initial (i : Int) (h0 : 0 ≤ i) (h1 : i < 8) (w : World) (ht : Tabs w) :
    Calls Tryd.prog 60 #[.int .i64 i] w fun e w' => e = .returned (wc (iAt i.toNat)) ∧ w' = w := by
  have hc : w.cell? ⟨0, i.toNat, none⟩ = some (wc (iAt i.toNat)) := ht.i _ (by omega)
  have t1 : decide (i < 0) = false := by simp; omega
  have t2 : decide (7 < i) = false := by simp; omega
  go_enter Tryd.func60, Tryd.ntmps60
  go_wp2
  go_ret
  exact ⟨rfl, rfl⟩
end Go.Proofs.YtjgdmpbaikhflaaDoor
