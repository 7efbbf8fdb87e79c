/- Word; ShTab: put together for the claim. -/
import Derived.Test.YtijnkieakenipaaDoorProg
import Derived.WalkKit
import Derived.WalkSpells
import Derived.WalkLawsBesides
import Derived.Lib.Hide
import Derived.Below
import Derived.Test.YtijnkieakenipaaDoorMem
/- Words of 32 bits as the walk spells them: 'wn x' for the number of x, hidden; the laws that turn the model's arithmetic into that of BitVec 32. -/
namespace Go.Proofs.YtijnkieakenipaaDoor
open Go.RowKit

/-- a word -/
abbrev W32 := BitVec 32
/-- the number of a word, as the walk spells it -/
@[irreducible] def wn (x : W32) : Int := x.toNat
theorem wn_def (x : W32) : wn x = (x.toNat : Int) := by unfold wn; rfl
theorem wn_nonneg (x : W32) : 0 ≤ wn x := by rw [wn_def]; omega
theorem wn_lt (x : W32) : wn x < 4294967296 := by rw [wn_def]; have := x.isLt; omega
theorem wn_inj {x y : W32} (h : wn x = wn y) : x = y := by
  rw [wn_def, wn_def] at h
  exact BitVec.eq_of_toNat_eq (by omega)
/-- the cell of a word -/
abbrev wc (x : W32) : Value := .int .u32 (wn x)
theorem wn_lit (n : Nat) (h : n < 4294967296) : wn (BitVec.ofNat 32 n) = (n : Int) := by
  rw [wn_def, BitVec.toNat_ofNat, Nat.mod_eq_of_lt h]
theorem ofInt_wn (x : W32) : BitVec.ofInt IntKind.u32.bits (wn x) = x := by
  rw [wn_def]; exact BitVec.eq_of_toNat_eq (by simp [IntKind.bits])
theorem wrap_toNat (x : W32) : IntKind.u32.wrap (x.toNat : Int) = wn x := by
  rw [wn_def, IntKind.wrap_u32]; have := x.isLt; omega
theorem bits_xor_wn (x y : W32) : bits .xor .u32 (wn x) (wn y) = wn (x ^^^ y) := by
  simp only [bits, ofInt_wn]; exact wrap_toNat _
theorem bits_and_wn (x y : W32) : bits .and .u32 (wn x) (wn y) = wn (x &&& y) := by
  simp only [bits, ofInt_wn]; exact wrap_toNat _
theorem bits_or_wn (x y : W32) : bits .or .u32 (wn x) (wn y) = wn (x ||| y) := by
  simp only [bits, ofInt_wn]; exact wrap_toNat _
theorem wrap_add_wn (x y : W32) : IntKind.u32.wrap (wn x + wn y) = wn (x + y) := by
  rw [wn_def, wn_def, wn_def, IntKind.wrap_u32, BitVec.toNat_add]; omega
theorem wrap_wn (x : W32) : IntKind.u32.wrap (wn x) = wn x := by rw [wn_def, wrap_toNat, wn_def]
theorem not_wn (x : W32) : IntKind.u32.wrap (-1 - wn x) = wn (~~~x) := by
  rw [wn_def, wn_def, IntKind.wrap_u32, BitVec.toNat_not]; have := x.isLt; omega
theorem shr_wn (x : W32) (k : Nat) : wn x / 2 ^ k = wn (x >>> k) := by
  rw [wn_def, wn_def, BitVec.toNat_ushiftRight, Nat.shiftRight_eq_div_pow]; simp
theorem shl_wn (x : W32) (k : Nat) : IntKind.u32.wrap (wn x * 2 ^ k) = wn (x <<< k) := by
  rw [wn_def, wn_def, IntKind.wrap_u32, BitVec.toNat_shiftLeft, Nat.shiftLeft_eq]
  rw [show (x.toNat : Int) * 2 ^ k = ((x.toNat * 2 ^ k : Nat) : Int) from by simp]
  omega
/-- turned to the right -/
def rotr (x : W32) (k : Nat) : W32 := x <<< (32 - k) ||| x >>> k
theorem and31 (n : Int) (h : -32 < n) (h2 : n < 0) : bits .and .u64 (IntKind.u64.wrap n) 31 = n + 32 := by
  rw [show (31 : Int) = 2 ^ 5 - 1 by decide, bits_mask .u64 64 (by decide) (fun n h0 h1 => by rw [IntKind.wrap_u64]; omega) 5 (by decide) _ (by rw [IntKind.wrap_u64]; omega) (by rw [IntKind.wrap_u64]; omega)]
  rw [IntKind.wrap_u64]; omega
attribute [local go_sem high] bits_or_wn shl_wn shr_wn

theorem RotateLeft32 (x : W32) (k : Nat) (n : Int) (hn : n = -(k : Int)) (hk : 0 < k) (hk2 : k < 32) (w : World) :
    Calls Tryd.prog 49 #[.int .u32 (wn x), .int .i64 n] w fun e w' => e = .returned (.int .u32 (wn (rotr x k))) ∧ w' = w := by
  have e1 := and31 n (by omega) (by omega)
  have e2 : 0 ≤ n + 32 := by omega
  have e3 : 0 ≤ 32 - (n + 32) := by omega
  have e6 : IntKind.u64.wrap (32 - (n + 32)) = k := by rw [IntKind.wrap_u64]; omega
  have e4 : (n + 32).toNat = 32 - k := by omega
  have e5 : min ((k : Int)).toNat IntKind.u32.bits = k := by simp only [IntKind.bits]; omega
  have e7 : (0 : Int) ≤ k := by omega
  clear hn
  go_enter Tryd.func49, Tryd.ntmps49
  go_wp2
  go_ret
  exact ⟨rfl, rfl⟩
theorem turned (x : W32) (k : Nat) (m : Int) (hm : m = k) (hk : 0 < k) (hk2 : k < 32) (w : World) :
    Calls Tryd.prog 47 #[.int .u32 (wn x), .int .i64 m] w fun e w' => e = .returned (.int .u32 (wn (rotr x k))) ∧ w' = w := by
  have e1 : IntKind.i64.wrap (-m) = -m := by rw [IntKind.wrap_i64]; omega
  have h := RotateLeft32 x k (-m) (by omega) hk hk2
  clear hm
  go_enter Tryd.func47, Tryd.ntmps47
  go_wp2_with fail
  refine (h _).mono ?_
  rintro e1 w1 ⟨rfl, rfl⟩
  go_wp2
  go_ret
  exact ⟨rfl, rfl⟩
end Go.Proofs.YtijnkieakenipaaDoor
/- The tables of SHA-256 as the program keeps them: what they hold, and what Constant and Initial answer. -/
namespace Go.Proofs.YtijnkieakenipaaDoor
open Go.RowKit

/-- the constants -/
def kTab : List Nat := [
  0x428a2f98, 0x71374491, 0xb5c0fbcf, 0xe9b5dba5, 0x3956c25b, 0x59f111f1, 0x923f82a4, 0xab1c5ed5,
  0xd807aa98, 0x12835b01, 0x243185be, 0x550c7dc3, 0x72be5d74, 0x80deb1fe, 0x9bdc06a7, 0xc19bf174,
  0xe49b69c1, 0xefbe4786, 0x0fc19dc6, 0x240ca1cc, 0x2de92c6f, 0x4a7484aa, 0x5cb0a9dc, 0x76f988da,
  0x983e5152, 0xa831c66d, 0xb00327c8, 0xbf597fc7, 0xc6e00bf3, 0xd5a79147, 0x06ca6351, 0x14292967,
  0x27b70a85, 0x2e1b2138, 0x4d2c6dfc, 0x53380d13, 0x650a7354, 0x766a0abb, 0x81c2c92e, 0x92722c85,
  0xa2bfe8a1, 0xa81a664b, 0xc24b8b70, 0xc76c51a3, 0xd192e819, 0xd6990624, 0xf40e3585, 0x106aa070,
  0x19a4c116, 0x1e376c08, 0x2748774c, 0x34b0bcb5, 0x391c0cb3, 0x4ed8aa4a, 0x5b9cca4f, 0x682e6ff3,
  0x748f82ee, 0x78a5636f, 0x84c87814, 0x8cc70208, 0x90befffa, 0xa4506ceb, 0xbef9a3f7, 0xc67178f2]
/-- the initial words -/
def iTab : List Nat := [0x6a09e667, 0xbb67ae85, 0x3c6ef372, 0xa54ff53a, 0x510e527f, 0x9b05688c, 0x1f83d9ab, 0x5be0cd19]
def kAt (i : Nat) : W32 := BitVec.ofNat 32 (kTab.getD i 0)
def iAt (i : Nat) : W32 := BitVec.ofNat 32 (iTab.getD i 0)

/-- What the program's tables hold. -/
structure Tabs (w : World) : Prop where
  k : ∀ i, i < 64 → w.cell? ⟨1, i, none⟩ = some (wc (kAt i))
  i : ∀ i, i < 8 → w.cell? ⟨0, i, none⟩ = some (wc (iAt i))
theorem Tabs.below {w w' : World} (h : Tabs w) (hb : Below w.heap.size w w') : Tabs w' :=
  ⟨fun i hi => (hb.cell (p := ⟨1, i, none⟩) (World.block_lt_of_cell? w _ (h.k i hi))).trans (h.k i hi),
   fun i hi => (hb.cell (p := ⟨0, i, none⟩) (World.block_lt_of_cell? w _ (h.i i hi))).trans (h.i i hi)⟩

theorem Constant (i : Int) (h0 : 0 ≤ i) (h1 : i < 64) (w : World) (ht : Tabs w) :
    Calls Tryd.prog 48 #[.int .i64 i] w fun e w' => e = .returned (wc (kAt i.toNat)) ∧ w' = w := by
  have hc : w.cell? ⟨1, i.toNat, none⟩ = some (wc (kAt i.toNat)) := ht.k _ (by omega)
  have t1 : decide (i < 0) = false := by simp; omega
  have t2 : decide (63 < i) = false := by simp; omega
  go_enter Tryd.func48, Tryd.ntmps48
  go_wp2
  go_ret
  exact ⟨rfl, rfl⟩
theorem Initial (i : Int) (h0 : 0 ≤ i) (h1 : i < 8) (w : World) (ht : Tabs w) :
    Calls Tryd.prog 45 #[.int .i64 i] w fun e w' => e = .returned (wc (iAt i.toNat)) ∧ w' = w := by
  have hc : w.cell? ⟨0, i.toNat, none⟩ = some (wc (iAt i.toNat)) := ht.i _ (by omega)
  have t1 : decide (i < 0) = false := by simp; omega
  have t2 : decide (7 < i) = false := by simp; omega
  go_enter Tryd.func45, Tryd.ntmps45
  go_wp2
  go_ret
  exact ⟨rfl, rfl⟩
end Go.Proofs.YtijnkieakenipaaDoor
