/- HdM; Bits: put together for the claim. -/
import Derived.Test.YtijnkieakenipaaDoorFr
import Derived.Test.YtijnkieakenipaaDoorCMath
import Derived.Test.YtijnkieakenipaaDoorShD
import Derived.WalkKit
import Derived.Lib.EndianBits
/- Headers: their cells, their bytes. -/
namespace Go.Proofs.YtijnkieakenipaaDoor
open Go.RowKit
/-- a header -/
structure Hd where
  ver : Nat
  prev : List UInt8
  root : List UInt8
  time : Nat
  bits : Nat
  nonce : Nat
deriving DecidableEq
def Hd.ok (h : Hd) : Prop := h.ver < 4294967296 ∧ h.prev.length = 32 ∧ h.root.length = 32 ∧ h.time < 4294967296 ∧ h.bits < 4294967296 ∧ h.nonce < 4294967296
/-- its cells -/
def hdc (h : Hd) : List Value := [.int .u32 (h.ver : Int)] ++ (h.prev.map bv ++ (h.root.map bv ++ [.int .u32 (h.time : Int), .int .u32 (h.bits : Int), .int .u32 (h.nonce : Int)]))
/-- its bytes -/
def hdB (h : Hd) : List UInt8 := Cm.lo 4 h.ver ++ (h.prev ++ (h.root ++ (Cm.lo 4 h.time ++ (Cm.lo 4 h.bits ++ Cm.lo 4 h.nonce))))
/-- its hash -/
def hdId (h : Hd) : List UInt8 := dblB (hdB h)
theorem hdId_length (h : Hd) : (hdId h).length = 32 := dblB_length _
theorem hdB_length {h : Hd} (k : h.ok) : (hdB h).length = 80 := by
  obtain ⟨_, h1, h2, _⟩ := k
  simp [hdB, Cm.lo_length, h1, h2]
theorem hdc_length {h : Hd} (k : h.ok) : (hdc h).length = 68 := by
  obtain ⟨_, h1, h2, _⟩ := k
  simp [hdc, h1, h2]
theorem hdc_one (h : Hd) : ∀ u ∈ hdc h, u.oneCell' = true := by
  intro u hu
  simp only [hdc, List.mem_append, List.mem_cons, List.not_mem_nil, or_false, List.mem_map] at hu
  rcases hu with rfl | ⟨_, _, rfl⟩ | ⟨_, _, rfl⟩ | rfl | rfl | rfl <;> rfl
theorem hdc_at {h : Hd} (k : h.ok) : (hdc h)[0]? = some (.int .u32 (h.ver : Int)) ∧ (hdc h)[65]? = some (.int .u32 (h.time : Int)) ∧ (hdc h)[66]? = some (.int .u32 (h.bits : Int)) ∧ (hdc h)[67]? = some (.int .u32 (h.nonce : Int)) := by
  obtain ⟨_, h1, h2, _⟩ := k
  refine ⟨rfl, ?_, ?_, ?_⟩ <;>
  · unfold hdc
    rw [List.getElem?_append_right (by simp), List.getElem?_append_right (by simp [h1]), List.getElem?_append_right (by simp [h1, h2])]
    simp [h1, h2]
/-- the parts of a header that lies in a block of its own -/
theorem Av.hd_prev {w : World} {g : Nat} {t : TypeId} {h : Hd} (a : Av w g t (hdc h)) : w.rangeAt g 1 (h.prev.map bv) :=
  Av.rangeAt (pre := [.int .u32 (h.ver : Int)]) (rest := h.root.map bv ++ [.int .u32 (h.time : Int), .int .u32 (h.bits : Int), .int .u32 (h.nonce : Int)]) (by simpa [hdc] using a) 1 rfl
theorem Av.hd_root {w : World} {g : Nat} {t : TypeId} {h : Hd} (k : h.ok) (a : Av w g t (hdc h)) : w.rangeAt g 33 (h.root.map bv) :=
  Av.rangeAt (pre := [.int .u32 (h.ver : Int)] ++ h.prev.map bv) (rest := [.int .u32 (h.time : Int), .int .u32 (h.bits : Int), .int .u32 (h.nonce : Int)]) (by simpa [hdc] using a) 33 (by simp [k.2.1])
theorem rd_of_range {w : World} {g o : Nat} {cs : List Value} (h : w.rangeAt g o cs) : Rd w (some ⟨g, o, none⟩) cs := .inr ⟨g, o, rfl, fun j u hu => h j u hu⟩
end Go.Proofs.YtijnkieakenipaaDoor
/- Small laws on the bits of numbers. -/
namespace Go.Proofs.YtijnkieakenipaaDoor
open Go.RowKit

theorem pow_split (k : Nat) (h : 8 * k + 8 ≤ 64) : 2 ^ (8 * k) * 256 ≤ 18446744073709551616 := by
  have : 2 ^ (8 * k + 8) ≤ 2 ^ 64 := Nat.pow_le_pow_right (by omega) h
  rw [Nat.pow_add] at this
  exact this
/-- 'n | b << (8 * k)', n below 2^(8k), b a byte: they are added. -/
theorem or_shl_u64 (a b k : Nat) (ha : a < 2 ^ (8 * k)) (hb : b < 256) (hk : 8 * k + 8 ≤ 64) :
    bits .or .u64 (a : Int) (IntKind.u64.wrap (IntKind.u64.wrap (b : Int) * 2 ^ (8 * k))) = ((a + 2 ^ (8 * k) * b : Nat) : Int) := by
  have hp := pow_split k hk
  have hq : 2 ^ (8 * k) * b ≤ 2 ^ (8 * k) * 255 := Nat.mul_le_mul_left _ (by omega)
  have e1 : IntKind.u64.wrap (b : Int) = b := wraps_u64 _ (by omega) (by omega)
  have e3 : (b : Int) * 2 ^ (8 * k) = ((2 ^ (8 * k) * b : Nat) : Int) := by rw [Int.natCast_mul, Int.mul_comm (b : Int)]; simp
  generalize hP : 2 ^ (8 * k) = p at *
  have e2 : IntKind.u64.wrap ((p * b : Nat) : Int) = ((p * b : Nat) : Int) := wraps_u64 _ (by omega) (by omega)
  rw [e1, e3, e2]
  rw [bits_join_low .u64 64 (by decide) wraps_u64 (8 * k) (a : Int) ((p * b : Nat) : Int) (by omega) ?_ (by omega) (by omega) ?_ (by omega)]
  · omega
  · rw [show (2 : Int) ^ (8 * k) = ((2 ^ (8 * k) : Nat) : Int) from by simp, hP]; omega
  · rw [show (2 : Int) ^ (8 * k) = ((2 ^ (8 * k) : Nat) : Int) from by simp, hP, ← Int.natCast_emod, Nat.mul_mod_right]; rfl
theorem pow_256 (k : Nat) : 256 ^ k = 2 ^ (8 * k) := by rw [Nat.pow_mul]
end Go.Proofs.YtijnkieakenipaaDoor
