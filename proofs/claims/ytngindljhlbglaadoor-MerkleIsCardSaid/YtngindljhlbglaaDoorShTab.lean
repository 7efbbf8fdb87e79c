/- The tables of SHA-256 as the program keeps them: what they hold, and what Constant and Initial answer. -/
import Derived.Test.YtngindljhlbglaaDoorWord
import Derived.Test.YtngindljhlbglaaDoorMem
namespace Go.Proofs.YtngindljhlbglaaDoor
open Go.RowKit

/-- the constants -/
def kTab : List Nat := [
  0x428a2f98, 0x71374491, 0xb5c0fbcf, 0xe9b5dba5, 0x3956c25b, 0x59f111f1, 0x923f82a4, 0xab1c5ed5,
  0xd807aa98, 0x12835b01, 0x243185be, 0x550c7dc3, 0x72be5d74, 0x80deb1fe, 0x9bdc06a7, 0xc19bf174,
  0xe49b69c1, 0xefbe4786, 0x0fc19dc6, 0x240ca1cc, 0x2de92c6f, 0x4a7484aa, 0x5cb0a9dc, 0x76f988da,
  0x983e5152, 0xa831c66d, 0xb00327c8, 0xbf597fc7, 0xc6e00bf3, 0xd5a79147, 0x06ca6351, 0x14292967,
  0x27b70a85, 0x2e1b2138, 0x4d2c6dfc, 0x53380d13, 0x650a7354, 0x766a0abb, 0x81c2c92e, 0x92722c85,
  0xa2bfe8a1, 0xa81a664b, 0xc24b8b70, 0xc76c51a3, 0xd192e819, 0xd6990624, 0xf40e3585, 0x106aa070,
  0x19a4c116, 0x1e376c08, 0x2748774c, 0x34b0bcb5, 0x391c0cb3, 0x4ed8aa4a, 0x5b9cca4f, 0x682e6ff3,
  0x748f82ee, 0x78a5636f, 0x84c87814, 0x8cc70208, 0x90befffa, 0xa4506ceb, 0xbef9a3f7, 0xc67178f2]
/-- the initial words -/
def iTab : List Nat := [0x6a09e667, 0xbb67ae85, 0x3c6ef372, 0xa54ff53a, 0x510e527f, 0x9b05688c, 0x1f83d9ab, 0x5be0cd19]
def kAt (i : Nat) : W32 := BitVec.ofNat 32 (kTab.getD i 0)
def iAt (i : Nat) : W32 := BitVec.ofNat 32 (iTab.getD i 0)

/-- What the program's tables hold. -/
structure Tabs (w : World) : Prop where
  k : ∀ i, i < 64 → w.cell? ⟨1, i, none⟩ = some (wc (kAt i))
  i : ∀ i, i < 8 → w.cell? ⟨0, i, none⟩ = some (wc (iAt i))
theorem Tabs.below {w w' : World} (h : Tabs w) (hb : Below w.heap.size w w') : Tabs w' :=
  ⟨fun i hi => (hb.cell (p := ⟨1, i, none⟩) (World.block_lt_of_cell? w _ (h.k i hi))).trans (h.k i hi),
   fun i hi => (hb.cell (p := ⟨0, i, none⟩) (World.block_lt_of_cell? w _ (h.i i hi))).trans (h.i i hi)⟩

theorem Constant (i : Int) (h0 : 0 ≤ i) (h1 : i < 64) (w : World) (ht : Tabs w) :
    Calls Tryd.prog 48 #[.int .i64 i] w fun e w' => e = .returned (wc (kAt i.toNat)) ∧ w' = w := by
  have hc : w.cell? ⟨1, i.toNat, none⟩ = some (wc (kAt i.toNat)) := ht.k _ (by omega)
  have t1 : decide (i < 0) = false := by simp; omega
  have t2 : decide (63 < i) = false := by simp; omega
  go_enter Tryd.func48, Tryd.ntmps48
  go_wp2
  go_ret
  exact ⟨rfl, rfl⟩
theorem Initial (i : Int) (h0 : 0 ≤ i) (h1 : i < 8) (w : World) (ht : Tabs w) :
    Calls Tryd.prog 42 #[.int .i64 i] w fun e w' => e = .returned (wc (iAt i.toNat)) ∧ w' = w := by
  have hc : w.cell? ⟨0, i.toNat, none⟩ = some (wc (iAt i.toNat)) := ht.i _ (by omega)
  have t1 : decide (i < 0) = false := by simp; omega
  have t2 : decide (7 < i) = false := by simp; omega
  go_enter Tryd.func42, Tryd.ntmps42
  go_wp2
  go_ret
  exact ⟨rfl, rfl⟩
end Go.Proofs.YtngindljhlbglaaDoor
