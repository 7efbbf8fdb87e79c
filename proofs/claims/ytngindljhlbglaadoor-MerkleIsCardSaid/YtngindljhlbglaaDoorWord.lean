/- Words of 32 bits as the walk spells them: 'wn x' for the number of x, hidden; the laws that turn the model's arithmetic into that of BitVec 32. -/
import Derived.Test.YtngindljhlbglaaDoorProg
import Derived.WalkKit
import Derived.WalkSpells
import Derived.WalkLawsBesides
import Derived.Lib.Hide
import Derived.Below
namespace Go.Proofs.YtngindljhlbglaaDoor
open Go.RowKit

/-- a word -/
abbrev W32 := BitVec 32
/-- the number of a word, as the walk spells it -/
@[irreducible] def wn (x : W32) : Int := x.toNat
theorem wn_def (x : W32) : wn x = (x.toNat : Int) := by unfold wn; rfl
theorem wn_nonneg (x : W32) : 0 ≤ wn x := by rw [wn_def]; omega
theorem wn_lt (x : W32) : wn x < 4294967296 := by rw [wn_def]; have := x.isLt; omega
theorem wn_inj {x y : W32} (h : wn x = wn y) : x = y := by
  rw [wn_def, wn_def] at h
  exact BitVec.eq_of_toNat_eq (by omega)
/-- the cell of a word -/
abbrev wc (x : W32) : Value := .int .u32 (wn x)
theorem wn_lit (n : Nat) (h : n < 4294967296) : wn (BitVec.ofNat 32 n) = (n : Int) := by
  rw [wn_def, BitVec.toNat_ofNat, Nat.mod_eq_of_lt h]
theorem ofInt_wn (x : W32) : BitVec.ofInt IntKind.u32.bits (wn x) = x := by
  rw [wn_def]; exact BitVec.eq_of_toNat_eq (by simp [IntKind.bits])
theorem wrap_toNat (x : W32) : IntKind.u32.wrap (x.toNat : Int) = wn x := by
  rw [wn_def, IntKind.wrap_u32]; have := x.isLt; omega
theorem bits_xor_wn (x y : W32) : bits .xor .u32 (wn x) (wn y) = wn (x ^^^ y) := by
  simp only [bits, ofInt_wn]; exact wrap_toNat _
theorem bits_and_wn (x y : W32) : bits .and .u32 (wn x) (wn y) = wn (x &&& y) := by
  simp only [bits, ofInt_wn]; exact wrap_toNat _
theorem bits_or_wn (x y : W32) : bits .or .u32 (wn x) (wn y) = wn (x ||| y) := by
  simp only [bits, ofInt_wn]; exact wrap_toNat _
theorem wrap_add_wn (x y : W32) : IntKind.u32.wrap (wn x + wn y) = wn (x + y) := by
  rw [wn_def, wn_def, wn_def, IntKind.wrap_u32, BitVec.toNat_add]; omega
theorem wrap_wn (x : W32) : IntKind.u32.wrap (wn x) = wn x := by rw [wn_def, wrap_toNat, wn_def]
theorem not_wn (x : W32) : IntKind.u32.wrap (-1 - wn x) = wn (~~~x) := by
  rw [wn_def, wn_def, IntKind.wrap_u32, BitVec.toNat_not]; have := x.isLt; omega
theorem shr_wn (x : W32) (k : Nat) : wn x / 2 ^ k = wn (x >>> k) := by
  rw [wn_def, wn_def, BitVec.toNat_ushiftRight, Nat.shiftRight_eq_div_pow]; simp
theorem shl_wn (x : W32) (k : Nat) : IntKind.u32.wrap (wn x * 2 ^ k) = wn (x <<< k) := by
  rw [wn_def, wn_def, IntKind.wrap_u32, BitVec.toNat_shiftLeft, Nat.shiftLeft_eq]
  rw [show (x.toNat : Int) * 2 ^ k = ((x.toNat * 2 ^ k : Nat) : Int) from by simp]
  omega
/-- turned to the right -/
def rotr (x : W32) (k : Nat) : W32 := x <<< (32 - k) ||| x >>> k
theorem and31 (n : Int) (h : -32 < n) (h2 : n < 0) : bits .and .u64 (IntKind.u64.wrap n) 31 = n + 32 := by
  rw [show (31 : Int) = 2 ^ 5 - 1 by decide, bits_mask .u64 64 (by decide) (fun n h0 h1 => by rw [IntKind.wrap_u64]; omega) 5 (by decide) _ (by rw [IntKind.wrap_u64]; omega) (by rw [IntKind.wrap_u64]; omega)]
  rw [IntKind.wrap_u64]; omega
attribute [local go_sem high] bits_or_wn shl_wn shr_wn

theorem RotateLeft32 (x : W32) (k : Nat) (n : Int) (hn : n = -(k : Int)) (hk : 0 < k) (hk2 : k < 32) (w : World) :
    Calls Tryd.prog 53 #[.int .u32 (wn x), .int .i64 n] w fun e w' => e = .returned (.int .u32 (wn (rotr x k))) ∧ w' = w := by
  have e1 := and31 n (by omega) (by omega)
  have e2 : 0 ≤ n + 32 := by omega
  have e3 : 0 ≤ 32 - (n + 32) := by omega
  have e6 : IntKind.u64.wrap (32 - (n + 32)) = k := by rw [IntKind.wrap_u64]; omega
  have e4 : (n + 32).toNat = 32 - k := by omega
  have e5 : min ((k : Int)).toNat IntKind.u32.bits = k := by simp only [IntKind.bits]; omega
  have e7 : (0 : Int) ≤ k := by omega
  clear hn
  go_enter Tryd.func53, Tryd.ntmps53
  go_wp2
  go_ret
  exact ⟨rfl, rfl⟩
theorem turned (x : W32) (k : Nat) (m : Int) (hm : m = k) (hk : 0 < k) (hk2 : k < 32) (w : World) :
    Calls Tryd.prog 47 #[.int .u32 (wn x), .int .i64 m] w fun e w' => e = .returned (.int .u32 (wn (rotr x k))) ∧ w' = w := by
  have e1 : IntKind.i64.wrap (-m) = -m := by rw [IntKind.wrap_i64]; omega
  have h := RotateLeft32 x k (-m) (by omega) hk hk2
  clear hm
  go_enter Tryd.func47, Tryd.ntmps47
  go_wp2_with fail
  refine (h _).mono ?_
  rintro e1 w1 ⟨rfl, rfl⟩
  go_wp2
  go_ret
  exact ⟨rfl, rfl⟩
end Go.Proofs.YtngindljhlbglaaDoor
