/- HdA; CWalk; CPut: put together for the claim. -/
import Derived.Test.YtjgdmpbaikhflaaDoorHdAi
import Derived.Test.YtjgdmpbaikhflaaDoorChecked
import Derived.Test.YtjgdmpbaikhflaaDoorPr3
import Derived.Test.YtjgdmpbaikhflaaDoorPr1
import Derived.Test.YtjgdmpbaikhflaaDoorPr6
import Derived.WalkKit
import Derived.WalkSpells
import Derived.WalkLawsBesides
import Derived.Lib.Hide
import Derived.Test.YtjgdmpbaikhflaaDoorPr2
/- header.Put. -/
namespace Go.Proofs.YtjgdmpbaikhflaaDoor
open Go.RowKit
attribute [local go_sem high] slB_lh slB_l slB_h
theorem zeros_68 : Tryd.zeroCells26 = (hdc ⟨0, List.replicate 32 0, List.replicate 32 0, 0, 0, 0⟩).toArray := by kernel_rfl
set_option maxRecDepth 100000 in
set_option maxHeartbeats 2000000 in
theorem HdPut (h : Hd) (k : h.ok) (w : World) :
    Calls Tryd.prog 14 #[.agg (hdc h).toArray] w fun e w' => ∃ A, e = .returned (.slice (some A) 80 80) ∧ Rd w' (some A) ((hdB h).map bv) ∧ Below w.heap.size w w' := by
  have hz := zeros_80
  have hzl : (List.replicate 80 (0 : UInt8)).length = 80 := by simp
  obtain ⟨zs, hzs⟩ : ∃ zs : List UInt8, zs = List.replicate 80 0 := ⟨_, rfl⟩
  rw [← hzs] at hz hzl
  clear hzs
  have HA := Lib.hid (HdArr h k)
  have hV80 : ((hdB h).map bv).length = 80 := by rw [List.length_map, hdB_length k]
  have h68 := hdc_length k
  obtain ⟨V, hV⟩ : ∃ V, V = hdB h := ⟨_, rfl⟩
  rw [← hV] at HA hV80
  rw [← hV]
  obtain ⟨W, hW⟩ : ∃ W, W = w.alloc (.cells (hdc h).toArray 26) := ⟨_, rfl⟩
  obtain ⟨H, hH⟩ : ∃ H, H = w.heap.size := ⟨_, rfl⟩
  have bW : Below w.heap.size w W := by rw [hW]; exact (Below.refl _ _).alloc (Nat.le_refl _) _
  have aW : Av W H 26 (hdc h) := by rw [hW, hH]; exact heap_alloc_new _ _
  replace hV := Lib.hid hV
  replace hW := Lib.hid hW
  replace hH := Lib.hid hH
  replace hzl := Lib.hid hzl
  replace hV80 := Lib.hid hV80
  replace h68 := Lib.hid h68
  go_enter Tryd.func14, Tryd.ntmps14
  go_upto_region 1 with fail
  rw [← hW.out, ← hH.out]
  go_upto_region 2 with (first
    | ((with_reducible refine wpList_loadF 26 aW ?_ _ 68 h68.out Tryd.underlying26 ?_ ?_ ?_); rfl; rfl; kernel_rfl)
    | (go_at_call 30; refine (HA.out _).mono ?_; rintro e w1 ⟨rfl, b1⟩)
    | ((with_reducible refine wpList_storeF 59 ((Below.refl w1.heap.size w1).alloc (Nat.le_refl _) _) (heap_alloc_new _ _) (Nat.le_refl _) (V.map bv) ?_ ?_ 80 hV80.out ?_ ?_ ?_ ?_); rfl; rfl; kernel_rfl; (rw [List.size_toArray, List.length_map]; exact hzl.out); (simp [Value.oneCell']); intro w2 a2 b2 k2 z2; clear k2; replace z2 := Lib.hid z2))
  have bw2 : Below w.heap.size w w2 := bW.trans ((b1.trans (b2.mono b1.size)).mono bW.size)
  have a2r := a2.rd
  go_wp2
  go_ret
  exact ⟨_, rfl, a2r, bw2⟩
end Go.Proofs.YtjgdmpbaikhflaaDoor
/- The walks of layer 4's small functions. -/
namespace Go.Proofs.YtjgdmpbaikhflaaDoor
open Go.RowKit

theorem size_int (n : Int) (h : 0 ≤ n) : (n < 253 ∧ Cm.size n.toNat = 1) ∨ (253 ≤ n ∧ n < 65536 ∧ Cm.size n.toNat = 3) ∨ (65536 ≤ n ∧ n < 4294967296 ∧ Cm.size n.toNat = 5) ∨ (4294967296 ≤ n ∧ Cm.size n.toNat = 9) := by
  rcases Cm.size_cases n.toNat with c | c | c | c
  · exact .inl (by omega)
  · exact .inr (.inl (by omega))
  · exact .inr (.inr (.inl (by omega)))
  · exact .inr (.inr (.inr (by omega)))

set_option maxHeartbeats 400000 in
theorem compact_Size (n : Int) (h : 0 ≤ n) (w : World) :
    Calls Tryd.prog 48 #[.int .u64 n] w fun e w' => e = .returned (.int .i64 (Cm.size n.toNat : Int)) ∧ w = w' := by
  rcases size_int n h with ⟨c1, c2⟩ | ⟨c0, c1, c2⟩ | ⟨c0, c1, c2⟩ | ⟨c1, c2⟩
  all_goals
    rw [c2]; clear c2
    go_enter Tryd.func48, Tryd.ntmps48
    go_wp2
    go_ret
    exact ⟨rfl, rfl⟩

set_option maxHeartbeats 400000 in
theorem compact_behind (b : UInt8) (w : World) :
    Calls Tryd.prog 61 #[.int .u8 (b.toNat : Int)] w fun e w' => e = .returned (.int .i64 (Cm.behind b : Int)) ∧ w = w' := by
  rcases Cm.behind_cases b with ⟨rfl, c⟩ | ⟨rfl, c⟩ | ⟨rfl, c⟩ | ⟨h, c⟩
  all_goals rw [c]; clear c
  · go_enter Tryd.func61, Tryd.ntmps61
    go_wp2
    go_ret
    exact ⟨rfl, rfl⟩
  · go_enter Tryd.func61, Tryd.ntmps61
    go_wp2
    go_ret
    exact ⟨rfl, rfl⟩
  · go_enter Tryd.func61, Tryd.ntmps61
    go_wp2
    go_ret
    exact ⟨rfl, rfl⟩
  · generalize b.toNat = n at h
    go_enter Tryd.func61, Tryd.ntmps61
    go_wp2
    go_ret
    exact ⟨rfl, rfl⟩

theorem le_snoc (r : List UInt8) (k : Nat) (h : k < r.length) : Cm.le (r.take (k + 1)) = Cm.le (r.take k) + 2 ^ (8 * k) * r[k].toNat := by
  rw [List.take_succ_eq_append_getElem h, Cm.le_append, List.length_take, Nat.min_eq_left (by omega), pow_256]
  simp [Cm.le]
theorem le_take_lt (r : List UInt8) (k : Nat) (h : k ≤ r.length) : Cm.le (r.take k) < 2 ^ (8 * k) := by
  have := Cm.le_lt (r.take k)
  rwa [List.length_take, Nat.min_eq_left h, pow_256] at this

theorem ret1 {k : IntKind} {a b : Int} (h : a = b) : Ending.returned (.int k a) = .returned (.int k b) := by rw [h]
theorem ret3i {k1 k2 k3 : IntKind} {a b c a' b' c' : Int} (h1 : a = a') (h2 : b = b') (h3 : c = c') :
    Ending.returned (.tuple #[.int k1 a, .int k2 b, .int k3 c]) = .returned (.tuple #[.int k1 a', .int k2 b', .int k3 c']) := by rw [h1, h2, h3]

/-- a number of several bytes -/
theorem compact_Get_more (x : UInt8) (r : List UInt8) (blk off m n c T : Nat) (w : World) (h2 : 2 ≤ m) (h8 : m ≤ 8) (hx : Cm.behind x = m) (hr : m + 1 ≤ n) (hn : (n : Int) ≤ 9223372036854775807) (hrl : r.length + 1 = n)
    (hc : w.cell? ⟨blk, off, none⟩ = some (bv x)) (hcs : ∀ j (hj : j < r.length), w.cell? ⟨blk, off + (1 + j), none⟩ = some (bv r[j])) (HT : Hid (Cm.le (r.take m) = T)) (s : Bool) (hs : decide (Cm.size T = m + 1) = s) :
    Calls Tryd.prog 49 #[.slice (some ⟨blk, off, none⟩) n c] w fun e w' =>
      e = .returned (if s then .tuple #[.int .u64 (T : Int), .int .i64 (1 + m : Int), .int .i64 0] else .tuple #[.int .u64 0, .int .i64 0, .int .i64 2]) ∧ w = w' := by
  have hbh := compact_behind x w
  rw [hx] at hbh
  have H := Lib.hid hbh
  have Hcs := Lib.hid hcs
  have Hrl := Lib.hid hrl
  have Hs := Lib.hid hs
  have hlen : m ≤ r.length := by omega
  clear hbh hx hcs hrl hs
  have hz : ((m : Int) == 0) = false := by simp; omega
  have hnz : ((n : Int) == 0) = false := by simp; omega
  have hlt : decide ((n : Int) < 1 + (m : Int)) = false := by simp; omega
  go_enter Tryd.func49, Tryd.ntmps49
  go_wp2_with (go_at_call 61; refine (H.out).mono ?_; rintro e w' ⟨rfl, rfl⟩)
  go_loop [6, 27] (fun t i => ∃ k : Nat, k ≤ m ∧ i = .int .i64 k ∧ t = .int .u64 (Cm.le (r.take k) : Int)) (fun _ i => m - (intOf i).toNat)
  case atStart => exact ⟨0, Nat.zero_le _, rfl, rfl⟩
  case round =>
    obtain ⟨k, hk, rfl, rfl⟩ := hrel
    by_cases hkm : k < m
    · have hck := Hcs.out k (by omega)
      go_wp2
      go_round
      case rel =>
        refine ⟨k + 1, by omega, by go_num, ?_⟩
        rw [or_shl_u64 _ _ _ (le_take_lt r k (by omega)) (Cm.u8_lt _) (by omega), le_snoc r k (by omega)]
      case measure => simp [intOf]; omega
    · obtain rfl : k = m := by omega
      clear hkm hk
      rw [HT.out]
      have hsl := Cm.size_le T
      have h0 : 0 ≤ (T : Int) := by omega
      cases s
      · have hb : (((Cm.size T : Nat) : Int) != 1 + (k : Int)) = true := by have := Hs.out; simp at this; simp; omega
        go_wp2_with (go_at_call 48; refine (compact_Size _ h0 _).mono ?_; rintro e w' ⟨rfl, rfl⟩)
        go_ret3
        exact ⟨rfl, rfl⟩
      · have hb : (((Cm.size T : Nat) : Int) != 1 + (k : Int)) = false := by have := Hs.out; simp at this; simp; omega
        go_wp2_with (go_at_call 48; refine (compact_Size _ h0 _).mono ?_; rintro e w' ⟨rfl, rfl⟩)
        go_ret3
        exact ⟨rfl, rfl⟩
end Go.Proofs.YtjgdmpbaikhflaaDoor
/- Layer 4: compact.Put: a number put behind bytes, in new memory. -/
namespace Go.Proofs.YtjgdmpbaikhflaaDoor
open Go.RowKit

set_option maxHeartbeats 400000 in
theorem compact_Put_1 (bs : List UInt8) (A : Option Addr) (n c : Nat) (m : Int) (h0 : 0 ≤ m) (hsm : Cm.size m.toNat = 1) (w : World) (hr : Rd w A (bs.map bv)) (hn : bs.length = n) (hm : (n : Int) ≤ 140737488355000) :
    Calls Tryd.prog 33 #[.slice A n c, .int .u64 m] w fun e w' => ∃ v, e = .returned v ∧ OwnB w' w.heap.size v (bs ++ [UInt8.ofNat m.toNat]) ∧ Below w.heap.size w w' := by
  have hsz := compact_Size m h0 w
  rw [hsm] at hsz
  have H := Lib.hid hsz
  have Hn := Lib.hid hn
  have hmk := made_bytes n 1 1 rfl (by omega)
  have hle : bs.length + 16 ≤ 140737488355328 := by omega
  have hmade := OwnB.made w w.heap.size (Nat.le_refl _) (madeCells #[.int .u8 0] (n + 1)) (n + 1) (by simp only [maxLen]; omega) (by simp [size_madeCells])
  have hr1 := hr.below ((Below.refl w.heap.size w).alloc (Nat.le_refl _) (.cells (madeCells #[.int .u8 0] (n + 1)) 5))
  have hb1 := (Below.refl w.heap.size w).alloc (Nat.le_refl _) (.cells (madeCells #[.int .u8 0] (n + 1)) 5)
  clear hsz hsm hn
  go_enter Tryd.func33, Tryd.ntmps33
  go_wp2_with (first
    | (go_at_call 48; refine (H.out).mono ?_; rintro e w' ⟨rfl, rfl⟩)
    | (at_builtin; refine wpList_appB hmade hb1 (by simp) n c hr1 Hn.out (by simp; omega) rfl (.tmp 15) (.tmp 16) rfl rfl rfl ?_; intro v1 w1 hown1 hb2 hz2 _)
    | (at_builtin; refine wpList_appB1 hown1 hb2 hb2.size _ (byte_of m h0) (by simp; omega) rfl (.tmp 24) (.tmp 27) rfl rfl rfl ?_; intro v2 w2 hown2 hb3 hz3))
  go_ret
  exact ⟨v2, rfl, hown2, hb3⟩

set_option maxHeartbeats 400000 in
theorem compact_Put_3 (bs : List UInt8) (A : Option Addr) (n c : Nat) (m : Int) (h0 : 0 ≤ m) (hsm : Cm.size m.toNat = 3) (w : World) (hr : Rd w A (bs.map bv)) (hn : bs.length = n) (hm : (n : Int) ≤ 140737488355000) :
    Calls Tryd.prog 33 #[.slice A n c, .int .u64 m] w fun e w' => ∃ v, e = .returned v ∧ OwnB w' w.heap.size v (bs ++ 253 :: Cm.lo 2 m.toNat) ∧ Below w.heap.size w w' := by
  have hsz := compact_Size m h0 w
  rw [hsm] at hsz
  have H := Lib.hid hsz
  have Hn := Lib.hid hn
  have hmk := made_bytes n 3 3 rfl (by omega)
  have hle : bs.length + 16 ≤ 140737488355328 := by omega
  have hmade := OwnB.made w w.heap.size (Nat.le_refl _) (madeCells #[.int .u8 0] (n + 3)) (n + 3) (by simp only [maxLen]; omega) (by simp [size_madeCells])
  have hr1 := hr.below ((Below.refl w.heap.size w).alloc (Nat.le_refl _) (.cells (madeCells #[.int .u8 0] (n + 3)) 5))
  have hb1 := (Below.refl w.heap.size w).alloc (Nat.le_refl _) (.cells (madeCells #[.int .u8 0] (n + 3)) 5)
  clear hsz hsm hn
  go_enter Tryd.func33, Tryd.ntmps33
  go_wp2_with (first
    | (go_at_call 48; refine (H.out).mono ?_; rintro e w' ⟨rfl, rfl⟩)
    | (at_builtin; refine wpList_appB hmade hb1 (by simp) n c hr1 Hn.out (by simp; omega) rfl (.tmp 15) (.tmp 16) rfl rfl rfl ?_; intro v1 w1 hown1 hb2 hz2 _)
    | (at_builtin; refine wpList_appB1 hown1 hb2 hb2.size 253 rfl (by simp; omega) rfl (.tmp 31) (.tmp 32) rfl rfl rfl ?_; intro v2 w2 hown2 hb3 hz3))
  go_loopw [6, 41] (fun v i wr => ∃ k : Nat, k ≤ 2 ∧ i = .int .i64 k ∧ OwnB wr w.heap.size v (bs ++ 253 :: Cm.lo k m.toNat) ∧ Below w.heap.size w wr) (fun _ i _ => 2 - (intOf i).toNat)
  case atStart => exact ⟨0, by omega, rfl, by simpa [Cm.lo] using hown2, hb3⟩
  case round =>
    obtain ⟨k, hk, rfl, ho, hbr⟩ := hrel
    have hll : (Cm.lo k m.toNat).length ≤ 2 := by rw [Cm.lo_length]; exact hk
    by_cases hkm : k < 2
    · go_wp2_with (at_builtin; refine wpList_appB1 ho hbr hbr.size (UInt8.ofNat (m.toNat / 256 ^ k)) (byte_at m h0 k) (by simp; omega) rfl (.tmp 44) (.tmp 50) rfl rfl rfl ?_; intro v3 w3 hown3 hb4 hz4)
      go_roundw
      case rel => exact ⟨k + 1, by omega, by go_num, by rw [Cm.lo_snoc]; simpa using hown3, hb4⟩
      case measure => simp [intOf]; omega
    · obtain rfl : k = 2 := by omega
      go_wp2
      go_ret
      exact ⟨_, rfl, ho, hbr⟩

set_option maxHeartbeats 400000 in
theorem compact_Put_5 (bs : List UInt8) (A : Option Addr) (n c : Nat) (m : Int) (h0 : 0 ≤ m) (hsm : Cm.size m.toNat = 5) (w : World) (hr : Rd w A (bs.map bv)) (hn : bs.length = n) (hm : (n : Int) ≤ 140737488355000) :
    Calls Tryd.prog 33 #[.slice A n c, .int .u64 m] w fun e w' => ∃ v, e = .returned v ∧ OwnB w' w.heap.size v (bs ++ 254 :: Cm.lo 4 m.toNat) ∧ Below w.heap.size w w' := by
  have hsz := compact_Size m h0 w
  rw [hsm] at hsz
  have H := Lib.hid hsz
  have Hn := Lib.hid hn
  have hmk := made_bytes n 5 5 rfl (by omega)
  have hle : bs.length + 16 ≤ 140737488355328 := by omega
  have hmade := OwnB.made w w.heap.size (Nat.le_refl _) (madeCells #[.int .u8 0] (n + 5)) (n + 5) (by simp only [maxLen]; omega) (by simp [size_madeCells])
  have hr1 := hr.below ((Below.refl w.heap.size w).alloc (Nat.le_refl _) (.cells (madeCells #[.int .u8 0] (n + 5)) 5))
  have hb1 := (Below.refl w.heap.size w).alloc (Nat.le_refl _) (.cells (madeCells #[.int .u8 0] (n + 5)) 5)
  clear hsz hsm hn
  go_enter Tryd.func33, Tryd.ntmps33
  go_wp2_with (first
    | (go_at_call 48; refine (H.out).mono ?_; rintro e w' ⟨rfl, rfl⟩)
    | (at_builtin; refine wpList_appB hmade hb1 (by simp) n c hr1 Hn.out (by simp; omega) rfl (.tmp 15) (.tmp 16) rfl rfl rfl ?_; intro v1 w1 hown1 hb2 hz2 _)
    | (at_builtin; refine wpList_appB1 hown1 hb2 hb2.size 254 rfl (by simp; omega) rfl (.tmp 36) (.tmp 37) rfl rfl rfl ?_; intro v2 w2 hown2 hb3 hz3))
  go_loopw [6, 41] (fun v i wr => ∃ k : Nat, k ≤ 4 ∧ i = .int .i64 k ∧ OwnB wr w.heap.size v (bs ++ 254 :: Cm.lo k m.toNat) ∧ Below w.heap.size w wr) (fun _ i _ => 4 - (intOf i).toNat)
  case atStart => exact ⟨0, by omega, rfl, by simpa [Cm.lo] using hown2, hb3⟩
  case round =>
    obtain ⟨k, hk, rfl, ho, hbr⟩ := hrel
    have hll : (Cm.lo k m.toNat).length ≤ 4 := by rw [Cm.lo_length]; exact hk
    by_cases hkm : k < 4
    · go_wp2_with (at_builtin; refine wpList_appB1 ho hbr hbr.size (UInt8.ofNat (m.toNat / 256 ^ k)) (byte_at m h0 k) (by simp; omega) rfl (.tmp 44) (.tmp 50) rfl rfl rfl ?_; intro v3 w3 hown3 hb4 hz4)
      go_roundw
      case rel => exact ⟨k + 1, by omega, by go_num, by rw [Cm.lo_snoc]; simpa using hown3, hb4⟩
      case measure => simp [intOf]; omega
    · obtain rfl : k = 4 := by omega
      go_wp2
      go_ret
      exact ⟨_, rfl, ho, hbr⟩

set_option maxHeartbeats 400000 in
theorem compact_Put_9 (bs : List UInt8) (A : Option Addr) (n c : Nat) (m : Int) (h0 : 0 ≤ m) (hsm : Cm.size m.toNat = 9) (w : World) (hr : Rd w A (bs.map bv)) (hn : bs.length = n) (hm : (n : Int) ≤ 140737488355000) :
    Calls Tryd.prog 33 #[.slice A n c, .int .u64 m] w fun e w' => ∃ v, e = .returned v ∧ OwnB w' w.heap.size v (bs ++ 255 :: Cm.lo 8 m.toNat) ∧ Below w.heap.size w w' := by
  have hsz := compact_Size m h0 w
  rw [hsm] at hsz
  have H := Lib.hid hsz
  have Hn := Lib.hid hn
  have hmk := made_bytes n 9 9 rfl (by omega)
  have hle : bs.length + 16 ≤ 140737488355328 := by omega
  have hmade := OwnB.made w w.heap.size (Nat.le_refl _) (madeCells #[.int .u8 0] (n + 9)) (n + 9) (by simp only [maxLen]; omega) (by simp [size_madeCells])
  have hr1 := hr.below ((Below.refl w.heap.size w).alloc (Nat.le_refl _) (.cells (madeCells #[.int .u8 0] (n + 9)) 5))
  have hb1 := (Below.refl w.heap.size w).alloc (Nat.le_refl _) (.cells (madeCells #[.int .u8 0] (n + 9)) 5)
  clear hsz hsm hn
  go_enter Tryd.func33, Tryd.ntmps33
  go_wp2_with (first
    | (go_at_call 48; refine (H.out).mono ?_; rintro e w' ⟨rfl, rfl⟩)
    | (at_builtin; refine wpList_appB hmade hb1 (by simp) n c hr1 Hn.out (by simp; omega) rfl (.tmp 15) (.tmp 16) rfl rfl rfl ?_; intro v1 w1 hown1 hb2 hz2 _)
    | (at_builtin; refine wpList_appB1 hown1 hb2 hb2.size 255 rfl (by simp; omega) rfl (.tmp 19) (.tmp 20) rfl rfl rfl ?_; intro v2 w2 hown2 hb3 hz3))
  go_loopw [6, 41] (fun v i wr => ∃ k : Nat, k ≤ 8 ∧ i = .int .i64 k ∧ OwnB wr w.heap.size v (bs ++ 255 :: Cm.lo k m.toNat) ∧ Below w.heap.size w wr) (fun _ i _ => 8 - (intOf i).toNat)
  case atStart => exact ⟨0, by omega, rfl, by simpa [Cm.lo] using hown2, hb3⟩
  case round =>
    obtain ⟨k, hk, rfl, ho, hbr⟩ := hrel
    have hll : (Cm.lo k m.toNat).length ≤ 8 := by rw [Cm.lo_length]; exact hk
    by_cases hkm : k < 8
    · go_wp2_with (at_builtin; refine wpList_appB1 ho hbr hbr.size (UInt8.ofNat (m.toNat / 256 ^ k)) (byte_at m h0 k) (by simp; omega) rfl (.tmp 44) (.tmp 50) rfl rfl rfl ?_; intro v3 w3 hown3 hb4 hz4)
      go_roundw
      case rel => exact ⟨k + 1, by omega, by go_num, by rw [Cm.lo_snoc]; simpa using hown3, hb4⟩
      case measure => simp [intOf]; omega
    · obtain rfl : k = 8 := by omega
      go_wp2
      go_ret
      exact ⟨_, rfl, ho, hbr⟩

/-- compact.Put: the bytes, and behind them the number's, in new memory. -/
theorem compact_Put (bs : List UInt8) (A : Option Addr) (n c : Nat) (m : Int) (h0 : 0 ≤ m) (O : List UInt8) (hO : bs ++ Cm.put m.toNat = O) (w : World) (hr : Rd w A (bs.map bv)) (hn : bs.length = n) (hm : (n : Int) ≤ 140737488355000) :
    Calls Tryd.prog 33 #[.slice A n c, .int .u64 m] w fun e w' => ∃ v, e = .returned v ∧ OwnB w' w.heap.size v O ∧ Below w.heap.size w w' := by
  subst hO
  unfold Cm.put
  rcases Cm.size_cases m.toNat with h | h | h | h
  · rw [if_pos h.1]
    exact compact_Put_1 bs A n c m h0 h.2 w hr hn hm
  · rw [if_neg (by omega), Cm.mark, if_pos h.2.1, h.2.2]
    exact compact_Put_3 bs A n c m h0 h.2.2 w hr hn hm
  · rw [if_neg (by omega), Cm.mark, if_neg (by omega), if_pos h.2.1, h.2.2]
    exact compact_Put_5 bs A n c m h0 h.2.2 w hr hn hm
  · rw [if_neg (by omega), Cm.mark, if_neg (by omega), if_neg (by omega), h.2]
    exact compact_Put_9 bs A n c m h0 h.2 w hr hn hm
end Go.Proofs.YtjgdmpbaikhflaaDoor
