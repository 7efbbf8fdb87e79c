/- The reference of layer 4: Get, Bounded. -/
import Derived.Test.YtjgdmpbaikhflaaDoorPr19
import Derived.Test.YtjgdmpbaikhflaaDoorPr11
namespace Go.Proofs.YtjgdmpbaikhflaaDoor
open Go.RowKit
attribute [local go_sem high] slB_lh slB_l slB_h nilB_eq

set_option maxHeartbeats 400000 in
theorem ref04_Get_none (A : Option Addr) (c : Nat) (w : World) :
    Calls Tryd.prog 54 #[.slice A 0 c] w fun e w' => e = .returned (.tuple #[.int .u64 0, .int .i64 0, .int .i64 1]) ∧ w = w' := by
  go_enter Tryd.func54, Tryd.ntmps54
  go_wp2
  go_ret3
  exact ⟨rfl, rfl⟩
set_option maxHeartbeats 400000 in
theorem ref04_Get_one (x : Int) (hx0 : 0 ≤ x) (hx : x < 253) (blk off n c : Nat) (w : World) (hr : 1 ≤ n) (hc : w.cell? ⟨blk, off, none⟩ = some (.int .u8 x)) :
    Calls Tryd.prog 54 #[.slice (some ⟨blk, off, none⟩) n c] w fun e w' => e = .returned (.tuple #[.int .u64 x, .int .i64 1, .int .i64 0]) ∧ w = w' := by
  have H := Lib.hid (fun w => ref04_Size x hx0 w)
  rw [show Cm.size x.toNat = 1 from by rcases size_int x hx0 with h | h | h | h <;> omega] at H
  have hnz : ((n : Int) == 0) = false := by simp; omega
  have h1 : (x == 253) = false := by simp; omega
  have h2 : (x == 254) = false := by simp; omega
  have h3 : (x == 255) = false := by simp; omega
  have hl : decide ((n : Int) < 1) = false := by simp; omega
  go_enter Tryd.func54, Tryd.ntmps54
  go_wp2_with (go_at_call 53; refine (H.out _).mono ?_; rintro e w' ⟨rfl, rfl⟩)
  go_ret3
  exact ⟨rfl, rfl⟩
theorem le_drop (l : List UInt8) (i : Nat) (h : i < l.length) : Cm.le (l.drop i) = l[i].toNat + 256 * Cm.le (l.drop (i + 1)) := by
  rw [List.drop_eq_getElem_cons h, Cm.le]
theorem le_drop_lt (l : List UInt8) (i : Nat) (h : l.length ≤ 8) (hi : 1 ≤ i) : Cm.le (l.drop i) ≤ 72057594037927935 := by
  have h1 := Cm.le_lt (l.drop i)
  rw [List.length_drop] at h1
  have h2 : 256 ^ (l.length - i) ≤ 256 ^ 7 := Nat.pow_le_pow_right (by omega) (by omega)
  omega

set_option maxHeartbeats 400000 in
theorem ref04_Get_short2 (x : Int) (hx : x = 253) (blk off n c : Nat) (w : World) (hr : 1 ≤ n) (hn : n < 3) (hc : w.cell? ⟨blk, off, none⟩ = some (.int .u8 x)) :
    Calls Tryd.prog 54 #[.slice (some ⟨blk, off, none⟩) n c] w fun e w' => e = .returned (.tuple #[.int .u64 0, .int .i64 0, .int .i64 1]) ∧ w = w' := by
  subst hx
  have hnz : ((n : Int) == 0) = false := by simp; omega
  have hl : decide ((n : Int) < 3) = true := by simp; omega
  go_enter Tryd.func54, Tryd.ntmps54
  go_wp2
  go_ret3
  exact ⟨rfl, rfl⟩
set_option maxHeartbeats 400000 in
theorem ref04_Get_more2 (r : List UInt8) (blk off n c T : Nat) (w : World) (hr : 3 ≤ n) (hn : (n : Int) ≤ 9223372036854775807) (hrl : r.length = 2)
    (hc : w.cell? ⟨blk, off, none⟩ = some (.int .u8 253)) (hcs : ∀ j (hj : j < r.length), w.cell? ⟨blk, off + (1 + j), none⟩ = some (bv r[j])) (HT : Hid (Cm.le r = T)) (s : Bool) (hs : decide (Cm.size T = 3) = s) :
    Calls Tryd.prog 54 #[.slice (some ⟨blk, off, none⟩) n c] w fun e w' =>
      e = .returned (if s then .tuple #[.int .u64 (T : Int), .int .i64 3, .int .i64 0] else .tuple #[.int .u64 0, .int .i64 0, .int .i64 2]) ∧ w = w' := by
  have Hcs := Lib.hid hcs
  have Hrl := Lib.hid hrl
  have Hs := Lib.hid hs
  clear hcs hrl hs
  have hnz : ((n : Int) == 0) = false := by simp; omega
  have hl : decide ((n : Int) < 3) = false := by simp; omega
  go_enter Tryd.func54, Tryd.ntmps54
  go_wp2
  go_loop [6, 7] (fun t i => ∃ k : Nat, k ≤ 2 ∧ i = .int .i64 k ∧ t = .int .u64 (Cm.le (r.drop k) : Int)) (fun _ i => (intOf i).toNat)
  case atStart => exact ⟨2, by omega, rfl, by rw [List.drop_of_length_le (by have := Hrl.out; omega)]; rfl⟩
  case round =>
    obtain ⟨k, hk, rfl, rfl⟩ := hrel
    by_cases hkm : 1 ≤ k
    · obtain ⟨j, hj⟩ : ∃ j, k = j + 1 := ⟨k - 1, by omega⟩
      subst hj
      have hjr : j < r.length := by have := Hrl.out; omega
      have hck := Hcs.out j hjr
      rw [Nat.add_comm 1 j] at hck
      have hst := Lib.hid (le_drop r j hjr)
      have hb := Cm.u8_lt r[j]
      have hbd := le_drop_lt r (j + 1) (by have := Hrl.out; omega) (by omega)
      generalize Cm.le (r.drop (j + 1)) = t at *
      obtain ⟨t', ht', q0, q1⟩ : ∃ t' : Int, (t : Int) = t' ∧ 0 ≤ t' ∧ t' ≤ 72057594037927935 := ⟨t, rfl, by omega, by omega⟩
      obtain ⟨b', hb', q2, q3⟩ : ∃ b' : Int, (r[j].toNat : Int) = b' ∧ 0 ≤ b' ∧ b' ≤ 255 := ⟨_, rfl, by omega, by omega⟩
      rw [ht']
      have hck' : w.cell? ⟨blk, off + (j + 1), none⟩ = some (.int .u8 b') := by rw [hck, ← hb']
      have Ht := Lib.hid ht'
      have Hb := Lib.hid hb'
      clear hck ht' hb' hb hbd
      go_wp2
      go_round
      case rel =>
        refine ⟨j, by omega, by go_num, ?_⟩
        rw [hst.out, ← Ht.out, ← Hb.out]
        congr 1
        omega
      case measure => simp [intOf]
    · obtain rfl : k = 0 := by omega
      clear hkm hk
      rw [List.drop_zero, HT.out]
      have h0 : 0 ≤ (T : Int) := by omega
      cases s
      · have hb : (((Cm.size T : Nat) : Int) != 3) = true := by have := Hs.out; simp at this; simp; omega
        go_wp2_with (go_at_call 53; refine (ref04_Size _ h0 _).mono ?_; rintro e w' ⟨rfl, rfl⟩)
        go_ret3
        exact ⟨rfl, rfl⟩
      · have hb : (((Cm.size T : Nat) : Int) != 3) = false := by have := Hs.out; simp at this; simp; omega
        go_wp2_with (go_at_call 53; refine (ref04_Size _ h0 _).mono ?_; rintro e w' ⟨rfl, rfl⟩)
        go_ret3
        exact ⟨rfl, rfl⟩

set_option maxHeartbeats 400000 in
theorem ref04_Get_short4 (x : Int) (hx : x = 254) (blk off n c : Nat) (w : World) (hr : 1 ≤ n) (hn : n < 5) (hc : w.cell? ⟨blk, off, none⟩ = some (.int .u8 x)) :
    Calls Tryd.prog 54 #[.slice (some ⟨blk, off, none⟩) n c] w fun e w' => e = .returned (.tuple #[.int .u64 0, .int .i64 0, .int .i64 1]) ∧ w = w' := by
  subst hx
  have hnz : ((n : Int) == 0) = false := by simp; omega
  have hl : decide ((n : Int) < 5) = true := by simp; omega
  go_enter Tryd.func54, Tryd.ntmps54
  go_wp2
  go_ret3
  exact ⟨rfl, rfl⟩
set_option maxHeartbeats 400000 in
theorem ref04_Get_more4 (r : List UInt8) (blk off n c T : Nat) (w : World) (hr : 5 ≤ n) (hn : (n : Int) ≤ 9223372036854775807) (hrl : r.length = 4)
    (hc : w.cell? ⟨blk, off, none⟩ = some (.int .u8 254)) (hcs : ∀ j (hj : j < r.length), w.cell? ⟨blk, off + (1 + j), none⟩ = some (bv r[j])) (HT : Hid (Cm.le r = T)) (s : Bool) (hs : decide (Cm.size T = 5) = s) :
    Calls Tryd.prog 54 #[.slice (some ⟨blk, off, none⟩) n c] w fun e w' =>
      e = .returned (if s then .tuple #[.int .u64 (T : Int), .int .i64 5, .int .i64 0] else .tuple #[.int .u64 0, .int .i64 0, .int .i64 2]) ∧ w = w' := by
  have Hcs := Lib.hid hcs
  have Hrl := Lib.hid hrl
  have Hs := Lib.hid hs
  clear hcs hrl hs
  have hnz : ((n : Int) == 0) = false := by simp; omega
  have hl : decide ((n : Int) < 5) = false := by simp; omega
  go_enter Tryd.func54, Tryd.ntmps54
  go_wp2
  go_loop [6, 7] (fun t i => ∃ k : Nat, k ≤ 4 ∧ i = .int .i64 k ∧ t = .int .u64 (Cm.le (r.drop k) : Int)) (fun _ i => (intOf i).toNat)
  case atStart => exact ⟨4, by omega, rfl, by rw [List.drop_of_length_le (by have := Hrl.out; omega)]; rfl⟩
  case round =>
    obtain ⟨k, hk, rfl, rfl⟩ := hrel
    by_cases hkm : 1 ≤ k
    · obtain ⟨j, hj⟩ : ∃ j, k = j + 1 := ⟨k - 1, by omega⟩
      subst hj
      have hjr : j < r.length := by have := Hrl.out; omega
      have hck := Hcs.out j hjr
      rw [Nat.add_comm 1 j] at hck
      have hst := Lib.hid (le_drop r j hjr)
      have hb := Cm.u8_lt r[j]
      have hbd := le_drop_lt r (j + 1) (by have := Hrl.out; omega) (by omega)
      generalize Cm.le (r.drop (j + 1)) = t at *
      obtain ⟨t', ht', q0, q1⟩ : ∃ t' : Int, (t : Int) = t' ∧ 0 ≤ t' ∧ t' ≤ 72057594037927935 := ⟨t, rfl, by omega, by omega⟩
      obtain ⟨b', hb', q2, q3⟩ : ∃ b' : Int, (r[j].toNat : Int) = b' ∧ 0 ≤ b' ∧ b' ≤ 255 := ⟨_, rfl, by omega, by omega⟩
      rw [ht']
      have hck' : w.cell? ⟨blk, off + (j + 1), none⟩ = some (.int .u8 b') := by rw [hck, ← hb']
      have Ht := Lib.hid ht'
      have Hb := Lib.hid hb'
      clear hck ht' hb' hb hbd
      go_wp2
      go_round
      case rel =>
        refine ⟨j, by omega, by go_num, ?_⟩
        rw [hst.out, ← Ht.out, ← Hb.out]
        congr 1
        omega
      case measure => simp [intOf]
    · obtain rfl : k = 0 := by omega
      clear hkm hk
      rw [List.drop_zero, HT.out]
      have h0 : 0 ≤ (T : Int) := by omega
      cases s
      · have hb : (((Cm.size T : Nat) : Int) != 5) = true := by have := Hs.out; simp at this; simp; omega
        go_wp2_with (go_at_call 53; refine (ref04_Size _ h0 _).mono ?_; rintro e w' ⟨rfl, rfl⟩)
        go_ret3
        exact ⟨rfl, rfl⟩
      · have hb : (((Cm.size T : Nat) : Int) != 5) = false := by have := Hs.out; simp at this; simp; omega
        go_wp2_with (go_at_call 53; refine (ref04_Size _ h0 _).mono ?_; rintro e w' ⟨rfl, rfl⟩)
        go_ret3
        exact ⟨rfl, rfl⟩

set_option maxHeartbeats 400000 in
theorem ref04_Get_short8 (x : Int) (hx : x = 255) (blk off n c : Nat) (w : World) (hr : 1 ≤ n) (hn : n < 9) (hc : w.cell? ⟨blk, off, none⟩ = some (.int .u8 x)) :
    Calls Tryd.prog 54 #[.slice (some ⟨blk, off, none⟩) n c] w fun e w' => e = .returned (.tuple #[.int .u64 0, .int .i64 0, .int .i64 1]) ∧ w = w' := by
  subst hx
  have hnz : ((n : Int) == 0) = false := by simp; omega
  have hl : decide ((n : Int) < 9) = true := by simp; omega
  go_enter Tryd.func54, Tryd.ntmps54
  go_wp2
  go_ret3
  exact ⟨rfl, rfl⟩
set_option maxHeartbeats 400000 in
theorem ref04_Get_more8 (r : List UInt8) (blk off n c T : Nat) (w : World) (hr : 9 ≤ n) (hn : (n : Int) ≤ 9223372036854775807) (hrl : r.length = 8)
    (hc : w.cell? ⟨blk, off, none⟩ = some (.int .u8 255)) (hcs : ∀ j (hj : j < r.length), w.cell? ⟨blk, off + (1 + j), none⟩ = some (bv r[j])) (HT : Hid (Cm.le r = T)) (s : Bool) (hs : decide (Cm.size T = 9) = s) :
    Calls Tryd.prog 54 #[.slice (some ⟨blk, off, none⟩) n c] w fun e w' =>
      e = .returned (if s then .tuple #[.int .u64 (T : Int), .int .i64 9, .int .i64 0] else .tuple #[.int .u64 0, .int .i64 0, .int .i64 2]) ∧ w = w' := by
  have Hcs := Lib.hid hcs
  have Hrl := Lib.hid hrl
  have Hs := Lib.hid hs
  clear hcs hrl hs
  have hnz : ((n : Int) == 0) = false := by simp; omega
  have hl : decide ((n : Int) < 9) = false := by simp; omega
  go_enter Tryd.func54, Tryd.ntmps54
  go_wp2
  go_loop [6, 7] (fun t i => ∃ k : Nat, k ≤ 8 ∧ i = .int .i64 k ∧ t = .int .u64 (Cm.le (r.drop k) : Int)) (fun _ i => (intOf i).toNat)
  case atStart => exact ⟨8, by omega, rfl, by rw [List.drop_of_length_le (by have := Hrl.out; omega)]; rfl⟩
  case round =>
    obtain ⟨k, hk, rfl, rfl⟩ := hrel
    by_cases hkm : 1 ≤ k
    · obtain ⟨j, hj⟩ : ∃ j, k = j + 1 := ⟨k - 1, by omega⟩
      subst hj
      have hjr : j < r.length := by have := Hrl.out; omega
      have hck := Hcs.out j hjr
      rw [Nat.add_comm 1 j] at hck
      have hst := Lib.hid (le_drop r j hjr)
      have hb := Cm.u8_lt r[j]
      have hbd := le_drop_lt r (j + 1) (by have := Hrl.out; omega) (by omega)
      generalize Cm.le (r.drop (j + 1)) = t at *
      obtain ⟨t', ht', q0, q1⟩ : ∃ t' : Int, (t : Int) = t' ∧ 0 ≤ t' ∧ t' ≤ 72057594037927935 := ⟨t, rfl, by omega, by omega⟩
      obtain ⟨b', hb', q2, q3⟩ : ∃ b' : Int, (r[j].toNat : Int) = b' ∧ 0 ≤ b' ∧ b' ≤ 255 := ⟨_, rfl, by omega, by omega⟩
      rw [ht']
      have hck' : w.cell? ⟨blk, off + (j + 1), none⟩ = some (.int .u8 b') := by rw [hck, ← hb']
      have Ht := Lib.hid ht'
      have Hb := Lib.hid hb'
      clear hck ht' hb' hb hbd
      go_wp2
      go_round
      case rel =>
        refine ⟨j, by omega, by go_num, ?_⟩
        rw [hst.out, ← Ht.out, ← Hb.out]
        congr 1
        omega
      case measure => simp [intOf]
    · obtain rfl : k = 0 := by omega
      clear hkm hk
      rw [List.drop_zero, HT.out]
      have h0 : 0 ≤ (T : Int) := by omega
      cases s
      · have hb : (((Cm.size T : Nat) : Int) != 9) = true := by have := Hs.out; simp at this; simp; omega
        go_wp2_with (go_at_call 53; refine (ref04_Size _ h0 _).mono ?_; rintro e w' ⟨rfl, rfl⟩)
        go_ret3
        exact ⟨rfl, rfl⟩
      · have hb : (((Cm.size T : Nat) : Int) != 9) = false := by have := Hs.out; simp at this; simp; omega
        go_wp2_with (go_at_call 53; refine (ref04_Size _ h0 _).mono ?_; rintro e w' ⟨rfl, rfl⟩)
        go_ret3
        exact ⟨rfl, rfl⟩

/-- the reference's Get -/
theorem ref04_Get (bs : List UInt8) (X K E : Nat) (hg : Cm.get bs = (X, K, E)) (A : Option Addr) (n c : Nat) (w : World) (hr : Rd w A (bs.map bv)) (hn : bs.length = n) (hm : (n : Int) ≤ 9223372036854775807) :
    Calls Tryd.prog 54 #[.slice A n c] w fun e w' => e = .returned (.tuple #[.int .u64 (X : Int), .int .i64 (K : Int), .int .i64 (E : Int)]) ∧ w = w' := by
  cases bs with
  | nil =>
    simp only [Cm.get, Prod.mk.injEq] at hg
    obtain ⟨rfl, rfl, rfl⟩ := hg
    obtain rfl : n = 0 := hn.symm
    exact ref04_Get_none A c w
  | cons x r =>
    obtain ⟨b, off, rfl, hc⟩ := Rd.cons hr
    have hc0 : w.cell? ⟨b, off, none⟩ = some (bv x) := hc 0 _ rfl
    have hcs : ∀ j (hj : j < r.length), w.cell? ⟨b, off + (1 + j), none⟩ = some (bv r[j]) := fun j hj =>
      hc (1 + j) _ (by rw [Nat.add_comm 1 j]; simp [hj])
    simp only [List.length_cons] at hn
    have multi : ∀ m, Cm.behind x = m → m ≠ 0 → (n < m + 1 → Calls Tryd.prog 54 #[.slice (some ⟨b, off, none⟩) n c] w fun e w' => e = .returned (.tuple #[.int .u64 0, .int .i64 0, .int .i64 1]) ∧ w = w') →
        (∀ (l : List UInt8) (T : Nat) (s : Bool), m + 1 ≤ n → l.length = m → (∀ j (hj : j < l.length), w.cell? ⟨b, off + (1 + j), none⟩ = some (bv l[j])) → Cm.le l = T → decide (Cm.size T = m + 1) = s →
          Calls Tryd.prog 54 #[.slice (some ⟨b, off, none⟩) n c] w fun e w' => e = .returned (if s then .tuple #[.int .u64 (T : Int), .int .i64 ((m + 1 : Nat) : Int), .int .i64 0] else .tuple #[.int .u64 0, .int .i64 0, .int .i64 2]) ∧ w = w') →
        Calls Tryd.prog 54 #[.slice (some ⟨b, off, none⟩) n c] w fun e w' => e = .returned (.tuple #[.int .u64 (X : Int), .int .i64 (K : Int), .int .i64 (E : Int)]) ∧ w = w' := by
      intro m hb hm0 hshort hmore
      by_cases hl : r.length < m
      · simp only [Cm.get, hb, if_neg hm0, if_pos hl, Prod.mk.injEq] at hg
        obtain ⟨rfl, rfl, rfl⟩ := hg
        exact hshort (by omega)
      · have h := hmore (r.take m) _ _ (by omega) (by rw [List.length_take]; omega) (fun j hj => by
          rw [List.length_take] at hj
          rw [List.getElem_take]
          exact hcs j (by omega)) rfl rfl
        by_cases hs : Cm.size (Cm.le (r.take m)) = m + 1
        · simp only [Cm.get, hb, if_neg hm0, if_neg hl] at hg
          rw [if_neg (by omega)] at hg
          simp only [Prod.mk.injEq] at hg
          obtain ⟨rfl, rfl, rfl⟩ := hg
          rw [decide_eq_true hs] at h
          refine h.mono fun e w' ⟨he, hw⟩ => ⟨?_, hw⟩
          rw [he, if_pos rfl]
          exact ret3i rfl (by omega) rfl
        · simp only [Cm.get, hb, if_neg hm0, if_neg hl] at hg
          rw [if_pos (by omega)] at hg
          simp only [Prod.mk.injEq] at hg
          obtain ⟨rfl, rfl, rfl⟩ := hg
          rw [decide_eq_false hs] at h
          exact h.mono fun e w' ⟨he, hw⟩ => ⟨he, hw⟩
    rcases Cm.behind_cases x with ⟨h, hb⟩ | ⟨h, hb⟩ | ⟨h, hb⟩ | ⟨h, hb⟩
    · subst h
      exact multi 2 hb (by omega) (fun hlt => ref04_Get_short2 253 rfl b off n c w (by omega) (by omega) hc0) (fun l T s h1 h2 h3 h4 h5 => ref04_Get_more2 l b off n c T w (by omega) hm h2 hc0 h3 h4 s h5)
    · subst h
      exact multi 4 hb (by omega) (fun hlt => ref04_Get_short4 254 rfl b off n c w (by omega) (by omega) hc0) (fun l T s h1 h2 h3 h4 h5 => ref04_Get_more4 l b off n c T w (by omega) hm h2 hc0 h3 h4 s h5)
    · subst h
      exact multi 8 hb (by omega) (fun hlt => ref04_Get_short8 255 rfl b off n c w (by omega) (by omega) hc0) (fun l T s h1 h2 h3 h4 h5 => ref04_Get_more8 l b off n c T w (by omega) hm h2 hc0 h3 h4 s h5)
    · simp only [Cm.get, if_pos hb, Prod.mk.injEq] at hg
      obtain ⟨rfl, rfl, rfl⟩ := hg
      exact ref04_Get_one x.toNat (by omega) (by omega) b off n c w (by omega) hc0

set_option maxHeartbeats 400000 in
theorem ref04_Bounded_bad (bs : List UInt8) (X K E : Nat) (hg : Cm.get bs = (X, K, E)) (hE : ((E : Int) != 0) = true) (most : Int) (A : Option Addr) (n c : Nat) (w : World) (hr : Rd w A (bs.map bv)) (hn : bs.length = n) (hm : (n : Int) ≤ 9223372036854775807) :
    Calls Tryd.prog 38 #[.slice A n c, .int .u64 most] w fun e w' => e = .returned (.tuple #[.int .i64 0, .int .i64 0, .int .i64 (E : Int)]) ∧ w = w' := by
  have H := Lib.hid (ref04_Get bs X K E hg A n c w hr hn hm)
  clear hg hr hn
  go_enter Tryd.func38, Tryd.ntmps38
  go_wp2_with (go_at_call 54; refine (H.out).mono ?_; rintro e w' ⟨rfl, rfl⟩)
  go_ret3
  exact ⟨rfl, rfl⟩

set_option maxHeartbeats 400000 in
theorem ref04_Bounded_big (bs : List UInt8) (X K : Nat) (hg : Cm.get bs = (X, K, 0)) (most : Int) (hb : most < X ∨ 2147483647 < (X : Int)) (A : Option Addr) (n c : Nat) (w : World) (hr : Rd w A (bs.map bv)) (hn : bs.length = n) (hm : (n : Int) ≤ 9223372036854775807) :
    Calls Tryd.prog 38 #[.slice A n c, .int .u64 most] w fun e w' => e = .returned (.tuple #[.int .i64 0, .int .i64 0, .int .i64 3]) ∧ w = w' := by
  have H := Lib.hid (ref04_Get bs X K 0 hg A n c w hr hn hm)
  clear hg hr hn hm
  generalize (X : Int) = x at *
  by_cases hb1 : most < x
  · clear hb
    go_enter Tryd.func38, Tryd.ntmps38
    go_wp2_with (go_at_call 54; refine (H.out).mono ?_; rintro e w' ⟨rfl, rfl⟩)
    go_ret3
    exact ⟨rfl, rfl⟩
  · have hb2 : 2147483647 < x := by omega
    clear hb
    go_enter Tryd.func38, Tryd.ntmps38
    go_wp2_with (go_at_call 54; refine (H.out).mono ?_; rintro e w' ⟨rfl, rfl⟩)
    go_ret3
    exact ⟨rfl, rfl⟩

set_option maxHeartbeats 400000 in
theorem ref04_Bounded_ok (bs : List UInt8) (X K : Nat) (hg : Cm.get bs = (X, K, 0)) (most : Int) (hb1 : ¬ most < X) (hb2 : (X : Int) ≤ 2147483647) (A : Option Addr) (n c : Nat) (w : World) (hr : Rd w A (bs.map bv)) (hn : bs.length = n) (hm : (n : Int) ≤ 9223372036854775807) :
    Calls Tryd.prog 38 #[.slice A n c, .int .u64 most] w fun e w' => e = .returned (.tuple #[.int .i64 (X : Int), .int .i64 (K : Int), .int .i64 0]) ∧ w = w' := by
  have H := Lib.hid (ref04_Get bs X K 0 hg A n c w hr hn hm)
  clear hg hr hn hm
  have h0 : 0 ≤ (X : Int) := by omega
  generalize (X : Int) = x at *
  have hb3 : ¬ 2147483647 < x := by omega
  go_enter Tryd.func38, Tryd.ntmps38
  go_wp2_with (go_at_call 54; refine (H.out).mono ?_; rintro e w' ⟨rfl, rfl⟩)
  go_ret3
  exact ⟨rfl, rfl⟩

/-- compact.Bounded -/
theorem ref04_Bounded (bs : List UInt8) (most : Int) (h0 : 0 ≤ most) (X K E : Nat) (hg : Cm.bounded bs most.toNat = (X, K, E)) (A : Option Addr) (n c : Nat) (w : World) (hr : Rd w A (bs.map bv)) (hn : bs.length = n) (hm : (n : Int) ≤ 9223372036854775807) :
    Calls Tryd.prog 38 #[.slice A n c, .int .u64 most] w fun e w' => e = .returned (.tuple #[.int .i64 (X : Int), .int .i64 (K : Int), .int .i64 (E : Int)]) ∧ w = w' := by
  obtain ⟨x, k, e, hq⟩ : ∃ x k e, Cm.get bs = (x, k, e) := ⟨_, _, _, rfl⟩
  unfold Cm.bounded at hg
  rw [hq] at hg
  by_cases he : e = 0
  · subst he
    rw [if_neg (by simp)] at hg
    by_cases hb : most.toNat < x ∨ 2147483647 < x
    · rw [if_pos hb] at hg
      simp only [Prod.mk.injEq] at hg
      obtain ⟨rfl, rfl, rfl⟩ := hg
      exact ref04_Bounded_big bs x k hq most (by omega) A n c w hr hn hm
    · rw [if_neg hb] at hg
      simp only [Prod.mk.injEq] at hg
      obtain ⟨rfl, rfl, rfl⟩ := hg
      exact ref04_Bounded_ok bs x k hq most (by omega) (by omega) A n c w hr hn hm
  · rw [if_pos he] at hg
    simp only [Prod.mk.injEq] at hg
    obtain ⟨rfl, rfl, rfl⟩ := hg
    exact ref04_Bounded_bad bs x k e hq (by simp; omega) most A n c w hr hn hm

end Go.Proofs.YtjgdmpbaikhflaaDoor
