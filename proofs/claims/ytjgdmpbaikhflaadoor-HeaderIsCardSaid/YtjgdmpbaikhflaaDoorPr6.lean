/- ShD; HdM; Bits; CPua: put together for the claim. -/
import Derived.Test.YtjgdmpbaikhflaaDoorPr5
import Derived.Test.YtjgdmpbaikhflaaDoorPr2
import Derived.Test.YtjgdmpbaikhflaaDoorPr3
import Derived.WalkKit
import Derived.Lib.EndianBits
/- Sum and Double of SHA-256. -/
namespace Go.Proofs.YtjgdmpbaikhflaaDoor
open Go.RowKit
attribute [local go_sem high] slB_lh slB_l slB_h nilB_eq

/-- the sum of bytes -/
def sumB (bs : List UInt8) : List UInt8 :=
  outB (shFold ((bs.length % 64 + (padZ bs.length + 9)) / 64) (shFold (bs.length / 64) shInit bs) (bs.drop (64 * (bs.length / 64)) ++ padOf bs.length))
theorem sumB_length (bs : List UInt8) : (sumB bs).length = 32 := outB_length _
/-- the sum of the sum -/
def dblB (bs : List UInt8) : List UInt8 := sumB (sumB bs)
theorem dblB_length (bs : List UInt8) : (dblB bs).length = 32 := sumB_length _

set_option maxRecDepth 10000 in
set_option maxHeartbeats 1000000 in
theorem Sum (bs : List UInt8) (B : Option Addr) (m c : Nat) (hm : bs.length = m) (hc : m ≤ c) (hm2 : m < 18446744073709551616) (w : World) (hr : Rd w B (bs.map bv)) (ht : Tabs w) :
    Calls Tryd.prog 32 #[.slice B m c] w fun e w' => e = .returned (.agg (hcs (sumB bs))) ∧ Below w.heap.size w w' := by
  have hz := zeros_32
  have hzl : (List.replicate 32 (0 : UInt8)).length = 32 := by simp
  obtain ⟨zs, hzs⟩ : ∃ zs : List UInt8, zs = List.replicate 32 0 := ⟨_, rfl⟩
  rw [← hzs] at hz hzl
  clear hzs
  replace hzl := Lib.hid hzl
  obtain ⟨ss, hss⟩ : ∃ l, l = sumB bs := ⟨_, rfl⟩
  have hsl : ss.length = 32 := by rw [hss, sumB_length]
  rw [← hss]
  replace hss := Lib.hid hss
  replace hsl := Lib.hid hsl
  replace hm := Lib.hid hm
  go_enter Tryd.func32, Tryd.ntmps32
  have hb0 := (Below.refl w.heap.size w).alloc (Nat.le_refl _) (.cells (zs.map bv).toArray 24)
  have ha2 : Av (w.alloc (.cells (zs.map bv).toArray 24)) w.heap.size 24 (zs.map bv) := heap_alloc_new _ _
  go_wp2_with fail
  generalize w.alloc (.cells (zs.map bv).toArray 24) = w0 at *
  refine (Start w0 (ht.below hb0)).mono ?_
  rintro e w1 ⟨rfl, b1⟩
  replace ha2 := ha2.below b1
  replace b1 := hb0.trans (b1.mono hb0.size)
  have HW := Write shInit (by rw [shInit, ifill_length]) [] none 0 0 rfl (by omega) (Nat.le_refl _) 0 (by omega) (by omega) rfl bs B m c hm.out hc (.inl rfl) w1 (Rd.nil _ _) (hr.below b1) (ht.below b1)
  rw [List.nil_append, Nat.zero_add] at HW
  have e1 : IntKind.u64.wrap (0 + IntKind.u64.wrap (m : Int)) = (m : Int) := by rw [IntKind.wrap_u64, IntKind.wrap_u64]; omega
  rw [e1] at HW
  obtain ⟨h1, hh1⟩ : ∃ l, l = shFold (m / 64) shInit bs := ⟨_, rfl⟩
  have hl1 : h1.length = 8 := by rw [hh1, shFold_length _ _ _ (by rw [shInit, ifill_length])]
  rw [← hh1] at HW
  replace HW := Lib.hid HW
  replace hh1 := Lib.hid hh1
  replace hl1 := Lib.hid hl1
  clear e1 hb0
  go_wp2_with fail
  refine HW.out.mono ?_
  rintro e w2 ⟨A2, c2, rfl, hc2, hr2, b2⟩
  clear HW
  replace ha2 := ha2.below b2
  replace b2 := b1.trans (b2.mono b1.size)
  have HE := End h1 hl1.out (bs.drop (64 * (m / 64))) A2 (m % 64) c2 (by rw [List.length_drop, hm.out]; omega) (by omega) hc2 m (by omega) rfl w2 hr2 (ht.below b2)
  rw [hh1.out] at HE
  have hss2 := hss.out
  rw [sumB, hm.out] at hss2
  rw [← hss2, ← hh1.out] at HE
  replace HE := Lib.hid HE
  clear hss2
  go_wp2_with fail
  refine HE.out.mono ?_
  rintro e w3 ⟨rfl, b3⟩
  clear HE
  replace ha2 := ha2.below b3
  replace b3 := b2.trans (b3.mono b2.size)
  go_wp2_with (refine wpList_storeAv b3 ha2 (Nat.le_refl _) rfl _ _ _ rfl rfl (ss.map bv) rfl 32 (by rw [List.length_map, hsl.out]) (by kernel_rfl) (by rw [List.size_toArray, List.length_map]; exact hzl.out) (by simp [Value.oneCell']) ?_
               intro w6 a6 b6 k6 z6)
  refine bodyPost_ret (results_cell_row rfl _ _ w.heap.size _ _ (0, 0) _ rfl a6 Tryd.underlying24 rfl (by rw [List.size_toArray, List.length_map, hsl.out]; kernel_rfl)) rfl ⟨rfl, b6⟩
set_option maxRecDepth 10000 in
set_option maxHeartbeats 1000000 in
theorem Double (bs : List UInt8) (B : Option Addr) (m c : Nat) (hm : bs.length = m) (hc : m ≤ c) (hm2 : m < 18446744073709551616) (w : World) (hr : Rd w B (bs.map bv)) (ht : Tabs w) :
    Calls Tryd.prog 16 #[.slice B m c] w fun e w' => e = .returned (.agg (hcs (dblB bs))) ∧ Below w.heap.size w w' := by
  have hz := zeros_32
  have hzl : (List.replicate 32 (0 : UInt8)).length = 32 := by simp
  obtain ⟨zs, hzs⟩ : ∃ zs : List UInt8, zs = List.replicate 32 0 := ⟨_, rfl⟩
  rw [← hzs] at hz hzl
  clear hzs
  replace hzl := Lib.hid hzl
  obtain ⟨ss, hss⟩ : ∃ l, l = sumB bs := ⟨_, rfl⟩
  have hsl : ss.length = 32 := by rw [hss, sumB_length]
  rw [dblB, ← hss]
  obtain ⟨dd, hdd⟩ : ∃ l, l = sumB ss := ⟨_, rfl⟩
  have hdl : dd.length = 32 := by rw [hdd, sumB_length]
  rw [← hdd]
  replace hss := Lib.hid hss
  replace hsl := Lib.hid hsl
  replace hdd := Lib.hid hdd
  replace hdl := Lib.hid hdl
  replace hm := Lib.hid hm
  go_enter Tryd.func16, Tryd.ntmps16
  have hb0 := (Below.refl w.heap.size w).alloc (Nat.le_refl _) (.cells (zs.map bv).toArray 24)
  have ha2 : Av (w.alloc (.cells (zs.map bv).toArray 24)) w.heap.size 24 (zs.map bv) := heap_alloc_new _ _
  go_wp2_with fail
  generalize w.alloc (.cells (zs.map bv).toArray 24) = w0 at *
  refine (Sum bs B m c hm.out hc hm2 w0 (hr.below hb0) (ht.below hb0)).mono ?_
  rintro e w1 ⟨rfl, b1⟩
  rw [← hss.out]
  replace ha2 := ha2.below b1
  replace b1 := hb0.trans (b1.mono hb0.size)
  have q1 := Lib.hid ha2.lt
  go_wp2_with (refine wpList_storeAv (b1.alloc b1.size _) (heap_alloc_new _ _) b1.size rfl _ _ _ rfl rfl (ss.map bv) rfl 32 (by rw [List.length_map, hsl.out]) (by kernel_rfl) (by rw [List.size_toArray, List.length_map]; exact hzl.out) (by simp [Value.oneCell']) ?_
               intro w2 a3 b2 k2 z2
               replace z2 := Lib.hid z2
               replace ha2 := (ha2.alloc (.cells (zs.map bv).toArray 24)).same (k2 _ (Nat.ne_of_lt q1.out)))
  refine (Sum ss _ 32 32 hsl.out (Nat.le_refl _) (by omega) w2 a3.rd (ht.below b2)).mono ?_
  rintro e w3 ⟨rfl, b3⟩
  rw [← hdd.out]
  replace ha2 := ha2.below b3
  replace b3 := b2.trans (b3.mono b2.size)
  go_wp2_with (refine wpList_storeAv b3 ha2 (Nat.le_refl _) rfl _ _ _ rfl rfl (dd.map bv) rfl 32 (by rw [List.length_map, hdl.out]) (by kernel_rfl) (by rw [List.size_toArray, List.length_map]; exact hzl.out) (by simp [Value.oneCell']) ?_
               intro w6 a6 b6 k6 z6)
  refine bodyPost_ret (results_cell_row rfl _ _ w.heap.size _ _ (0, 0) _ rfl a6 Tryd.underlying24 rfl (by rw [List.size_toArray, List.length_map, hdl.out]; kernel_rfl)) rfl ⟨rfl, b6⟩

end Go.Proofs.YtjgdmpbaikhflaaDoor
/- Headers: their cells, their bytes. -/
namespace Go.Proofs.YtjgdmpbaikhflaaDoor
open Go.RowKit
/-- a header -/
structure Hd where
  ver : Nat
  prev : List UInt8
  root : List UInt8
  time : Nat
  bits : Nat
  nonce : Nat
deriving DecidableEq
def Hd.ok (h : Hd) : Prop := h.ver < 4294967296 ∧ h.prev.length = 32 ∧ h.root.length = 32 ∧ h.time < 4294967296 ∧ h.bits < 4294967296 ∧ h.nonce < 4294967296
/-- its cells -/
def hdc (h : Hd) : List Value := [.int .u32 (h.ver : Int)] ++ (h.prev.map bv ++ (h.root.map bv ++ [.int .u32 (h.time : Int), .int .u32 (h.bits : Int), .int .u32 (h.nonce : Int)]))
/-- its bytes -/
def hdB (h : Hd) : List UInt8 := Cm.lo 4 h.ver ++ (h.prev ++ (h.root ++ (Cm.lo 4 h.time ++ (Cm.lo 4 h.bits ++ Cm.lo 4 h.nonce))))
/-- its hash -/
def hdId (h : Hd) : List UInt8 := dblB (hdB h)
theorem hdId_length (h : Hd) : (hdId h).length = 32 := dblB_length _
theorem hdB_length {h : Hd} (k : h.ok) : (hdB h).length = 80 := by
  obtain ⟨_, h1, h2, _⟩ := k
  simp [hdB, Cm.lo_length, h1, h2]
theorem hdc_length {h : Hd} (k : h.ok) : (hdc h).length = 68 := by
  obtain ⟨_, h1, h2, _⟩ := k
  simp [hdc, h1, h2]
theorem hdc_one (h : Hd) : ∀ u ∈ hdc h, u.oneCell' = true := by
  intro u hu
  simp only [hdc, List.mem_append, List.mem_cons, List.not_mem_nil, or_false, List.mem_map] at hu
  rcases hu with rfl | ⟨_, _, rfl⟩ | ⟨_, _, rfl⟩ | rfl | rfl | rfl <;> rfl
theorem hdc_at {h : Hd} (k : h.ok) : (hdc h)[0]? = some (.int .u32 (h.ver : Int)) ∧ (hdc h)[65]? = some (.int .u32 (h.time : Int)) ∧ (hdc h)[66]? = some (.int .u32 (h.bits : Int)) ∧ (hdc h)[67]? = some (.int .u32 (h.nonce : Int)) := by
  obtain ⟨_, h1, h2, _⟩ := k
  refine ⟨rfl, ?_, ?_, ?_⟩ <;>
  · unfold hdc
    rw [List.getElem?_append_right (by simp), List.getElem?_append_right (by simp [h1]), List.getElem?_append_right (by simp [h1, h2])]
    simp [h1, h2]
/-- the parts of a header that lies in a block of its own -/
theorem Av.hd_prev {w : World} {g : Nat} {t : TypeId} {h : Hd} (a : Av w g t (hdc h)) : w.rangeAt g 1 (h.prev.map bv) :=
  Av.rangeAt (pre := [.int .u32 (h.ver : Int)]) (rest := h.root.map bv ++ [.int .u32 (h.time : Int), .int .u32 (h.bits : Int), .int .u32 (h.nonce : Int)]) (by simpa [hdc] using a) 1 rfl
theorem Av.hd_root {w : World} {g : Nat} {t : TypeId} {h : Hd} (k : h.ok) (a : Av w g t (hdc h)) : w.rangeAt g 33 (h.root.map bv) :=
  Av.rangeAt (pre := [.int .u32 (h.ver : Int)] ++ h.prev.map bv) (rest := [.int .u32 (h.time : Int), .int .u32 (h.bits : Int), .int .u32 (h.nonce : Int)]) (by simpa [hdc] using a) 33 (by simp [k.2.1])
theorem rd_of_range {w : World} {g o : Nat} {cs : List Value} (h : w.rangeAt g o cs) : Rd w (some ⟨g, o, none⟩) cs := .inr ⟨g, o, rfl, fun j u hu => h j u hu⟩
end Go.Proofs.YtjgdmpbaikhflaaDoor
/- Small laws on the bits of numbers. -/
namespace Go.Proofs.YtjgdmpbaikhflaaDoor
open Go.RowKit

theorem pow_split (k : Nat) (h : 8 * k + 8 ≤ 64) : 2 ^ (8 * k) * 256 ≤ 18446744073709551616 := by
  have : 2 ^ (8 * k + 8) ≤ 2 ^ 64 := Nat.pow_le_pow_right (by omega) h
  rw [Nat.pow_add] at this
  exact this
/-- 'n | b << (8 * k)', n below 2^(8k), b a byte: they are added. -/
theorem or_shl_u64 (a b k : Nat) (ha : a < 2 ^ (8 * k)) (hb : b < 256) (hk : 8 * k + 8 ≤ 64) :
    bits .or .u64 (a : Int) (IntKind.u64.wrap (IntKind.u64.wrap (b : Int) * 2 ^ (8 * k))) = ((a + 2 ^ (8 * k) * b : Nat) : Int) := by
  have hp := pow_split k hk
  have hq : 2 ^ (8 * k) * b ≤ 2 ^ (8 * k) * 255 := Nat.mul_le_mul_left _ (by omega)
  have e1 : IntKind.u64.wrap (b : Int) = b := wraps_u64 _ (by omega) (by omega)
  have e3 : (b : Int) * 2 ^ (8 * k) = ((2 ^ (8 * k) * b : Nat) : Int) := by rw [Int.natCast_mul, Int.mul_comm (b : Int)]; simp
  generalize hP : 2 ^ (8 * k) = p at *
  have e2 : IntKind.u64.wrap ((p * b : Nat) : Int) = ((p * b : Nat) : Int) := wraps_u64 _ (by omega) (by omega)
  rw [e1, e3, e2]
  rw [bits_join_low .u64 64 (by decide) wraps_u64 (8 * k) (a : Int) ((p * b : Nat) : Int) (by omega) ?_ (by omega) (by omega) ?_ (by omega)]
  · omega
  · rw [show (2 : Int) ^ (8 * k) = ((2 ^ (8 * k) : Nat) : Int) from by simp, hP]; omega
  · rw [show (2 : Int) ^ (8 * k) = ((2 ^ (8 * k) : Nat) : Int) from by simp, hP, ← Int.natCast_emod, Nat.mul_mod_right]; rfl
theorem pow_256 (k : Nat) : 256 ^ k = 2 ^ (8 * k) := by rw [Nat.pow_mul]
end Go.Proofs.YtjgdmpbaikhflaaDoor
/- Bytes of a number; what append makes. -/
namespace Go.Proofs.YtjgdmpbaikhflaaDoor
open Go.RowKit

theorem made_bytes (n s : Nat) (k : Int) (hk : k = s) (h : (n : Int) + s ≤ 140737488355328) (u : World) :
    (Instr.makeSlice 37 (.int .i64 0) (.int .i64 ((n : Int) + k))).run Tryd.prog u = .ok (.slice (some ⟨u.heap.size, 0, none⟩) 0 (n + s)) (u.alloc (.cells (madeCells #[.int .u8 0] (n + s)) 5)) := by
  subst hk
  obtain ⟨i0, hi, hz0, hz1, hz2⟩ := info_parts info_u8
  have h := run_make (P := Tryd.prog) u 37 5 i0 (.int .u8 0) Tryd.underlying37 hi hz0 .i64 .i64 (0 : Int) ((n : Int) + s) (by omega) (by omega) (by rw [hz2]; omega) (by omega)
  have e : ((n : Int) + s).toNat = n + s := by omega
  rw [e] at h
  simpa [hz1, Value.cells] using h
theorem byte_at (m : Int) (h : 0 ≤ m) (k : Nat) : m / 2 ^ (8 * k) % 256 = ((UInt8.ofNat (m.toNat / 256 ^ k)).toNat : Int) := by
  obtain ⟨n, rfl⟩ := Int.eq_ofNat_of_zero_le h
  have e : (UInt8.ofNat (n / 256 ^ k)).toNat = n / 256 ^ k % 256 := UInt8.toNat_ofNat'
  rw [Int.toNat_natCast, e, pow_256]
  simp
theorem byte_of (m : Int) (h : 0 ≤ m) : m % 256 = ((UInt8.ofNat m.toNat).toNat : Int) := by
  obtain ⟨n, rfl⟩ := Int.eq_ofNat_of_zero_le h
  have e : (UInt8.ofNat n).toNat = n % 256 := UInt8.toNat_ofNat'
  rw [Int.toNat_natCast, e]
  simp
end Go.Proofs.YtjgdmpbaikhflaaDoor
