/- Plain mathematics of layer 4 (numbers of as few bytes as they need): no program in sight. -/
namespace Go.Proofs.YtijnkieakenipaaDoor.Cm

/-- bytes, the lowest first, as a number -/
def le : List UInt8 → Nat
  | [] => 0
  | b :: r => b.toNat + 256 * le r
/-- so many bytes of a number, the lowest first -/
def lo : Nat → Nat → List UInt8
  | 0, _ => []
  | k + 1, n => UInt8.ofNat n :: lo k (n / 256)
def size (n : Nat) : Nat := if n < 253 then 1 else if n < 65536 then 3 else if n < 4294967296 then 5 else 9
def mark (n : Nat) : UInt8 := if n < 65536 then 253 else if n < 4294967296 then 254 else 255
def put (n : Nat) : List UInt8 := if n < 253 then [UInt8.ofNat n] else mark n :: lo (size n - 1) n
def behind (b : UInt8) : Nat := if b = 253 then 2 else if b = 254 then 4 else if b = 255 then 8 else 0
/-- the number, how many bytes it has, the error -/
def get (l : List UInt8) : Nat × Nat × Nat :=
  match l with
  | [] => (0, 0, 1)
  | b :: r =>
    if behind b = 0 then (b.toNat, 1, 0)
    else if r.length < behind b then (0, 0, 1)
    else if size (le (r.take (behind b))) ≠ 1 + behind b then (0, 0, 2)
    else (le (r.take (behind b)), 1 + behind b, 0)
def bounded (l : List UInt8) (most : Nat) : Nat × Nat × Nat :=
  if (get l).2.2 ≠ 0 then (0, 0, (get l).2.2)
  else if most < (get l).1 ∨ 2147483647 < (get l).1 then (0, 0, 3)
  else get l
def bytes (l : List UInt8) (most : Int) : List UInt8 × Nat × Nat :=
  if (bounded l most.toNat).2.2 ≠ 0 then ([], 0, (bounded l most.toNat).2.2)
  else if most < 0 then ([], 0, 3)
  else if l.length - (bounded l most.toNat).2.1 < (bounded l most.toNat).1 then ([], 0, 1)
  else ((l.drop (bounded l most.toNat).2.1).take (bounded l most.toNat).1, (bounded l most.toNat).2.1 + (bounded l most.toNat).1, 0)

theorem u8_lt (b : UInt8) : b.toNat < 256 := b.toNat_lt
theorem u8_ofNat (n : Nat) (h : n < 256) : (UInt8.ofNat n).toNat = n := by
  simp only [UInt8.toNat_ofNat']; omega
theorem le_append (a b : List UInt8) : le (a ++ b) = le a + 256 ^ a.length * le b := by
  induction a with
  | nil => simp [le]
  | cons x r ih =>
    simp only [List.cons_append, le, ih, List.length_cons, Nat.pow_succ]
    rw [Nat.mul_add, ← Nat.mul_assoc, Nat.mul_comm 256 (256 ^ r.length), Nat.add_assoc]
theorem le_lt (a : List UInt8) : le a < 256 ^ a.length := by
  induction a with
  | nil => simp [le]
  | cons x r ih =>
    have := u8_lt x
    simp only [le, List.length_cons, Nat.pow_succ]
    omega
theorem le_lo (k n : Nat) : le (lo k n) = n % 256 ^ k := by
  induction k generalizing n with
  | zero => simp [lo, le, Nat.mod_one]
  | succ k ih =>
    have e : (UInt8.ofNat n).toNat = n % 256 := UInt8.toNat_ofNat'
    rw [lo, le, ih, e, show 256 ^ (k + 1) = 256 * 256 ^ k from by rw [Nat.pow_succ, Nat.mul_comm], Nat.mod_mul]
theorem lo_length (k n : Nat) : (lo k n).length = k := by
  induction k generalizing n with
  | zero => rfl
  | succ k ih => simp [lo, ih]
theorem lo_le (a : List UInt8) : lo a.length (le a) = a := by
  induction a with
  | nil => rfl
  | cons x r ih =>
    have := u8_lt x
    simp only [List.length_cons, lo, le]
    rw [show (x.toNat + 256 * le r) / 256 = le r from by omega, ih]
    congr 1
    apply UInt8.toNat.inj
    simp only [UInt8.toNat_ofNat']
    omega
theorem lo_snoc (k n : Nat) : lo (k + 1) n = lo k n ++ [UInt8.ofNat (n / 256 ^ k)] := by
  induction k generalizing n with
  | zero => simp [lo]
  | succ k ih =>
    rw [lo, ih (n / 256)]
    simp only [lo, List.cons_append, Nat.pow_succ, Nat.div_div_eq_div_mul, Nat.mul_comm]
theorem size_cases (n : Nat) : (n < 253 ∧ size n = 1) ∨ (253 ≤ n ∧ n < 65536 ∧ size n = 3) ∨ (65536 ≤ n ∧ n < 4294967296 ∧ size n = 5) ∨ (4294967296 ≤ n ∧ size n = 9) := by
  unfold size
  by_cases h1 : n < 253
  · exact .inl ⟨h1, if_pos h1⟩
  · by_cases h2 : n < 65536
    · exact .inr (.inl ⟨by omega, h2, by rw [if_neg h1, if_pos h2]⟩)
    · by_cases h3 : n < 4294967296
      · exact .inr (.inr (.inl ⟨by omega, h3, by rw [if_neg h1, if_neg h2, if_pos h3]⟩))
      · exact .inr (.inr (.inr ⟨by omega, by rw [if_neg h1, if_neg h2, if_neg h3]⟩))
theorem size_le (n : Nat) : 1 ≤ size n ∧ size n ≤ 9 := by rcases size_cases n with h | h | h | h <;> omega
theorem put_length (n : Nat) : (put n).length = size n := by
  unfold put
  rcases size_cases n with h | h | h | h
  · rw [if_pos h.1]; simp [h.2]
  · rw [if_neg (by omega)]; simp only [List.length_cons, lo_length]; omega
  · rw [if_neg (by omega)]; simp only [List.length_cons, lo_length]; omega
  · rw [if_neg (by omega)]; simp only [List.length_cons, lo_length]; omega
theorem behind_cases (b : UInt8) : (b = 253 ∧ behind b = 2) ∨ (b = 254 ∧ behind b = 4) ∨ (b = 255 ∧ behind b = 8) ∨ (b.toNat < 253 ∧ behind b = 0) := by
  unfold behind
  by_cases h1 : b = 253
  · exact .inl ⟨h1, if_pos h1⟩
  · by_cases h2 : b = 254
    · exact .inr (.inl ⟨h2, by rw [if_neg h1, if_pos h2]⟩)
    · by_cases h3 : b = 255
      · exact .inr (.inr (.inl ⟨h3, by rw [if_neg h1, if_neg h2, if_pos h3]⟩))
      · refine .inr (.inr (.inr ⟨?_, by rw [if_neg h1, if_neg h2, if_neg h3]⟩))
        have := u8_lt b
        have e1 : b.toNat ≠ 253 := fun h => h1 (UInt8.toNat.inj h)
        have e2 : b.toNat ≠ 254 := fun h => h2 (UInt8.toNat.inj h)
        have e3 : b.toNat ≠ 255 := fun h => h3 (UInt8.toNat.inj h)
        omega
theorem behind_mark (n : Nat) (h : 253 ≤ n) : behind (mark n) + 1 = size n := by
  unfold mark
  rcases size_cases n with c | c | c | c
  · omega
  · rw [if_pos (by omega)]; rw [c.2.2]; rfl
  · rw [if_neg (by omega), if_pos (by omega)]; rw [c.2.2]; rfl
  · rw [if_neg (by omega), if_neg (by omega)]; rw [c.2]; rfl
theorem pow_size (n : Nat) (h : n < 18446744073709551616) (h2 : 253 ≤ n) : n < 256 ^ (size n - 1) := by
  rcases size_cases n with c | c | c | c
  · omega
  · rw [c.2.2]; omega
  · rw [c.2.2]; omega
  · rw [c.2]; omega
/-- WHAT IS PUT IS GOT AGAIN, whatever stands behind it. -/
theorem get_put (n : Nat) (h : n < 18446744073709551616) (r : List UInt8) : get (put n ++ r) = (n, size n, 0) := by
  by_cases h1 : n < 253
  · have hs : size n = 1 := by unfold size; rw [if_pos h1]
    have hb : behind (UInt8.ofNat n) = 0 := by
      rcases behind_cases (UInt8.ofNat n) with c | c | c | c
      · have := congrArg UInt8.toNat c.1; rw [u8_ofNat n (by omega)] at this; simp at this; omega
      · have := congrArg UInt8.toNat c.1; rw [u8_ofNat n (by omega)] at this; simp at this; omega
      · have := congrArg UInt8.toNat c.1; rw [u8_ofNat n (by omega)] at this; simp at this; omega
      · exact c.2
    simp only [put, if_pos h1, List.singleton_append, get, hb, if_true, u8_ofNat n (show n < 256 by omega), hs]
  · have hb := behind_mark n (by omega)
    have hp := size_le n
    have hl := lo_length (size n - 1) n
    have e : behind (mark n) = size n - 1 := by omega
    have ht : (lo (size n - 1) n ++ r).take (size n - 1) = lo (size n - 1) n := by
      rw [List.take_append_of_le_length (by omega), List.take_of_length_le (by omega)]
    have hn : size n - 1 ≠ 0 := by rcases size_cases n with c | c | c | c <;> omega
    simp only [put, if_neg h1, List.cons_append, get, e, if_neg hn, ht, le_lo, Nat.mod_eq_of_lt (pow_size n h (by omega))]
    rw [if_neg (by simp only [List.length_append]; omega), if_neg (by omega)]
    simp only [Prod.mk.injEq, true_and, and_true]
    omega
/-- WHAT IS GOT IS PUT SO. -/
theorem put_get (l : List UInt8) (h : (get l).2.2 = 0) : put (get l).1 = l.take (get l).2.1 ∧ 1 ≤ (get l).2.1 ∧ (get l).2.1 ≤ l.length ∧ (get l).1 < 18446744073709551616 ∧ (get l).2.1 = size (get l).1 := by
  cases l with
  | nil => simp [get] at h
  | cons b r =>
    by_cases h0 : behind b = 0
    · rcases behind_cases b with c | c | c | c
      · omega
      · omega
      · omega
      · have e : get (b :: r) = (b.toNat, 1, 0) := by simp only [get, if_pos h0]
        rw [e]
        simp only [put, if_pos c.1, size, List.take_succ_cons, List.take_zero, List.length_cons]
        refine ⟨?_, by omega, by omega, by omega, trivial⟩
        congr 1
        apply UInt8.toNat.inj
        rw [u8_ofNat _ (by omega)]
    · by_cases h1 : r.length < behind b
      · simp [get, if_neg h0, if_pos h1] at h
      · by_cases h2 : size (le (r.take (behind b))) ≠ 1 + behind b
        · simp only [get, if_neg h0, if_neg h1, if_pos h2] at h; omega
        · have e : get (b :: r) = (le (r.take (behind b)), 1 + behind b, 0) := by simp only [get, if_neg h0, if_neg h1, if_neg h2]
          rw [e]
          have hlen : (r.take (behind b)).length = behind b := by rw [List.length_take]; omega
          have hlt := le_lt (r.take (behind b))
          have hlo := lo_le (r.take (behind b))
          rw [hlen] at hlt hlo
          generalize le (r.take (behind b)) = n at *
          have hs : size n = 1 + behind b := by omega
          have hbig : n < 18446744073709551616 := by
            rcases behind_cases b with c | c | c | c <;> rw [c.2] at hlt <;> omega
          have hn : ¬ n < 253 := by rcases size_cases n with c | c | c | c <;> omega
          have hm : mark n = b := by
            have hbm := behind_mark n (by omega)
            have e2 : behind (mark n) = behind b := by omega
            rcases behind_cases b with c | c | c | c <;> rcases behind_cases (mark n) with d | d | d | d <;> first | (rw [c.1, d.1]; done) | omega
          simp only [put, if_neg hn, hm, show size n - 1 = behind b from by omega, hlo, List.length_cons]
          refine ⟨?_, by omega, by omega, hbig, by omega⟩
          rw [Nat.add_comm 1, List.take_succ_cons]
theorem get_lt (l : List UInt8) : (get l).1 < 18446744073709551616 ∧ (get l).2.1 ≤ 9 ∧ (get l).2.1 ≤ l.length ∧ (get l).2.2 ≤ 2 := by
  by_cases h : (get l).2.2 = 0
  · have := put_get l h
    have := size_le (get l).1
    omega
  · cases l with
    | nil => simp [get]
    | cons b r =>
      simp only [get] at h ⊢
      split at h
      · simp at h
      · split at h
        · rename_i h1 h2; simp [h1, h2]
        · split at h
          · rename_i h1 h2 h3; simp [h1, h2, h3]
          · simp at h
theorem get_bad (l : List UInt8) (h : (get l).2.2 ≠ 0) : (get l).1 = 0 ∧ (get l).2.1 = 0 := by
  cases l with
  | nil => simp [get]
  | cons b r =>
    by_cases h0 : behind b = 0
    · simp [get, if_pos h0] at h
    · by_cases h1 : r.length < behind b
      · simp [get, if_neg h0, if_pos h1]
      · by_cases h2 : size (le (r.take (behind b))) ≠ 1 + behind b
        · simp [get, if_neg h0, if_neg h1, if_pos h2]
        · simp only [get, if_neg h0, if_neg h1, if_neg h2] at h
          simp at h
theorem bounded_le (l : List UInt8) (most : Nat) : (bounded l most).1 ≤ 2147483647 ∧ (bounded l most).2.1 ≤ l.length := by
  have := get_lt l
  unfold bounded
  by_cases h : (get l).2.2 ≠ 0
  · rw [if_pos h]; exact ⟨by simp, by simp⟩
  · rw [if_neg h]
    by_cases h2 : most < (get l).1 ∨ 2147483647 < (get l).1
    · rw [if_pos h2]; exact ⟨by simp, by simp⟩
    · rw [if_neg h2]; omega
/-- each beginning of what is put is short -/
theorem get_short (n : Nat) (h : n < 18446744073709551616) (i : Nat) (hi : i < size n) : (get ((put n).take i)).2.2 = 1 := by
  cases i with
  | zero => simp [get]
  | succ i =>
    have h1 : ¬ n < 253 := by rcases size_cases n with c | c | c | c <;> omega
    have hb := behind_mark n (by omega)
    have hl := lo_length (size n - 1) n
    simp only [put, if_neg h1, List.take_succ_cons, get]
    rw [if_neg (by rcases size_cases n with c | c | c | c <;> omega), if_pos (by rw [List.length_take]; omega)]
end Go.Proofs.YtijnkieakenipaaDoor.Cm
