/- Pc; Hdp; Eqh; U; Len: put together for the claim. -/
import Derived.Test.YtjgdmpbaikhflaaDoorPr1
import Derived.Test.YtjgdmpbaikhflaaDoorPr6
import Derived.Test.YtjgdmpbaikhflaaDoorPr4
import Derived.Stop.BytesEq
import Derived.Test.YtjgdmpbaikhflaaDoorPr2
import Derived.Test.YtjgdmpbaikhflaaDoorPr3
import Derived.Test.YtjgdmpbaikhflaaDoorRelT
import Derived.Deep.Cut
import Derived.Test.YtjgdmpbaikhflaaDoorBld
import Derived.Test.YtjgdmpbaikhflaaDoorPr7
import Derived.Test.YtjgdmpbaikhflaaDoorChecked
import Derived.WalkKit
import Derived.WalkSpells
import Derived.Lib.Strings
import Derived.Lib.Slices
import Derived.Lib.Small
import Derived.Lib.Walk
import Derived.Lib.BitFns
import Derived.Deep.Light
/- Pieces of a row of elements. -/
namespace Go.Proofs.YtjgdmpbaikhflaaDoor
open Go.RowKit
theorem Rd.piece {α : Type} {w : World} {b off : Nat} (f : α → List Value) (n : Nat) : ∀ (l : List α) (_ : ∀ e ∈ l, (f e).length = n) (_ : Rd w (some ⟨b, off, none⟩) (l.flatMap f)) (k : Nat) (e : α) (_ : l[k]? = some e), w.rangeAt b (off + k * n) (f e)
  | [], _, _, k, e, hk => by simp at hk
  | x :: l, hl, hr, 0, e, hk => by
    obtain rfl : x = e := by simpa using hk
    intro j v hv
    rcases hr with h | ⟨b', o', hA, hc⟩
    · rw [List.flatMap_cons] at h
      rw [(List.append_eq_nil_iff.1 h).1] at hv
      simp at hv
    · cases hA
      have hj := (List.getElem?_eq_some_iff.1 hv).1
      have := hc j v (by rw [List.flatMap_cons, List.getElem?_append_left hj]; exact hv)
      rw [Nat.zero_mul, Nat.add_zero]
      exact this
  | x :: l, hl, hr, k + 1, e, hk => by
    have hx := hl x (List.mem_cons_self ..)
    have h2 := hr.drop n
    rw [List.flatMap_cons, List.drop_append, List.drop_of_length_le (by rw [hx]; exact Nat.le_refl _), hx, Nat.sub_self, List.drop_zero, List.nil_append] at h2
    have := Rd.piece f n l (fun e he => hl e (List.mem_cons_of_mem _ he)) h2 k e (by simpa using hk)
    rw [show off + (k + 1) * n = off + n + k * n by rw [Nat.add_mul, Nat.one_mul]; omega]
    exact this
theorem flat_length {α β : Type} (f : α → List β) (n : Nat) : ∀ (l : List α) (_ : ∀ e ∈ l, (f e).length = n), (l.flatMap f).length = l.length * n
  | [], _ => by simp
  | x :: l, h => by
    rw [List.flatMap_cons, List.length_append, h x (List.mem_cons_self ..), flat_length f n l fun e he => h e (List.mem_cons_of_mem _ he), List.length_cons, Nat.add_mul, Nat.one_mul, Nat.add_comm]
end Go.Proofs.YtjgdmpbaikhflaaDoor
/- Slices of headers as they are read. -/
namespace Go.Proofs.YtjgdmpbaikhflaaDoor
open Go.RowKit
instance : Inhabited Hd := ⟨⟨0, [], [], 0, 0, 0⟩⟩
def hdl (l : List Hd) : List Value := l.flatMap hdc
def OkHds (l : List Hd) : Prop := ∀ h ∈ l, h.ok
def RdHds (w : World) (A : Option Addr) (l : List Hd) : Prop := Rd w A (hdl l) ∧ OkHds l
theorem RdHds.below {w w' : World} {A : Option Addr} {l : List Hd} (h : RdHds w A l) (b : Below w.heap.size w w') : RdHds w' A l := ⟨h.1.below b, h.2⟩
theorem hdl_len {l : List Hd} (h : OkHds l) : (hdl l).length = l.length * 68 := flat_length hdc 68 l fun e he => hdc_length (h e he)
theorem RdHds.adr {w : World} {A : Option Addr} {l : List Hd} (h : RdHds w A l) (hl : 0 < l.length) : ∃ b off, A = some ⟨b, off, none⟩ := by
  refine h.1.someA fun e => ?_
  have := hdl_len h.2
  rw [e, List.length_nil] at this
  omega
theorem RdHds.nth {w : World} {b off : Nat} {l : List Hd} (h : RdHds w (some ⟨b, off, none⟩) l) (k : Nat) (e : Hd) (hk : l[k]? = some e) : w.rangeAt b (off + k * 68) (hdc e) ∧ e.ok :=
  ⟨Rd.piece hdc 68 l (fun e he => hdc_length (h.2 e he)) h.1 k e hk, h.2 e (List.mem_of_getElem? hk)⟩
theorem range_prev {w : World} {b o : Nat} {h : Hd} (r : w.rangeAt b o (hdc h)) : w.rangeAt b (o + 1) (h.prev.map bv) := fun j u hu => by
  have hj := (List.getElem?_eq_some_iff.1 hu).1
  have := r (1 + j) u (by
    unfold hdc
    rw [List.getElem?_append_right (by simp), List.length_singleton, Nat.add_sub_cancel_left, List.getElem?_append_left hj]
    exact hu)
  rw [Nat.add_assoc]
  exact this
end Go.Proofs.YtjgdmpbaikhflaaDoor
/- Hashes and strings compared. -/
namespace Go.Proofs.YtjgdmpbaikhflaaDoor
open Go.RowKit
theorem sizeOf_u8 (w : World) : (sizeOf 5).run Tryd.prog w = .ok 1 w := by
  obtain ⟨i0, hi, hz⟩ := Option.map_eq_some_iff.1 size_u8
  simp [sizeOf, typeInfo, hi, hz]
theorem eqlP (x y : List UInt8) (hx : x.length = 32) (hy : y.length = 32) (w : World) : (binOp .eql 24 (.agg (x.map bv).toArray) (.agg (y.map bv).toArray)).run Tryd.prog w = .ok (.bool (x == y)) w :=
  run_eql_bytes w 24 5 32 Tryd.underlying24 Tryd.underlying5 sizeOf_u8 x y hx hy
theorem neqP (x y : List UInt8) (hx : x.length = 32) (hy : y.length = 32) (w : World) : (binOp .neq 24 (.agg (x.map bv).toArray) (.agg (y.map bv).toArray)).run Tryd.prog w = .ok (.bool (!(x == y))) w := by
  have h := run_equalIn_bytes w 9998 24 5 32 Tryd.underlying24 Tryd.underlying5 sizeOf_u8 x y hx hy
  rw [run_neq_struct]
  exact (congrArg (fun r : Result Bool => r.andThen fun b w' => .ok (Value.bool (!b)) w') h)
theorem map_take_step {α β : Type} (f : α → β) (a b : List α) (k : Nat) (x y : α) (hx : a[k]? = some x) (hy : b[k]? = some y) (h : (a.take k).map f = (b.take k).map f) (hd : f x = f y) : (a.take (k + 1)).map f = (b.take (k + 1)).map f := by
  rw [List.take_add_one, List.take_add_one, List.map_append, List.map_append, h, hx, hy]
  simp [hd]
end Go.Proofs.YtjgdmpbaikhflaaDoor
/- Numbers of 256 digits of two: their cells; Of. -/
namespace Go.Proofs.YtjgdmpbaikhflaaDoor
open Go.RowKit
/-- the cells of a number, its parts given -/
abbrev uq4 (a b c d : Nat) : List Value := [.int .u64 (a : Int), .int .u64 (b : Int), .int .u64 (c : Int), .int .u64 (d : Int)]
/-- the part i of a number -/
def lim (n i : Nat) : Nat := n / 18446744073709551616 ^ i % 18446744073709551616
/-- the cells of a number -/
def uc (n : Nat) : List Value := uq4 (lim n 0) (lim n 1) (lim n 2) (lim n 3)
theorem lim_lt (n i : Nat) : lim n i < 18446744073709551616 := Nat.mod_lt _ (by decide)
theorem lim_small {n : Nat} (h : n < 18446744073709551616) : lim n 0 = n ∧ lim n 1 = 0 ∧ lim n 2 = 0 ∧ lim n 3 = 0 := by
  unfold lim
  refine ⟨?_, ?_, ?_, ?_⟩
  · rw [Nat.pow_zero, Nat.div_one, Nat.mod_eq_of_lt h]
  · rw [Nat.pow_one, Nat.div_eq_of_lt h]
  · rw [Nat.div_eq_of_lt (by omega)]
  · rw [Nat.div_eq_of_lt (by omega)]
theorem uc_small {n : Nat} (h : n < 18446744073709551616) : uc n = uq4 n 0 0 0 := by
  obtain ⟨h0, h1, h2, h3⟩ := lim_small h
  rw [uc, h0, h1, h2, h3]
theorem lim_sum {n : Nat} (h : n < 115792089237316195423570985008687907853269984665640564039457584007913129639936) :
    n = lim n 0 + 18446744073709551616 * lim n 1 + 340282366920938463463374607431768211456 * lim n 2 + 6277101735386680763835789423207666416102355444464034512896 * lim n 3 := by
  unfold lim
  rw [Nat.pow_zero, Nat.div_one, Nat.pow_one, show 18446744073709551616 ^ 2 = 340282366920938463463374607431768211456 from rfl, show 18446744073709551616 ^ 3 = 6277101735386680763835789423207666416102355444464034512896 from rfl]
  omega
theorem lim_of (a b c d : Nat) (ha : a < 18446744073709551616) (hb : b < 18446744073709551616) (hc : c < 18446744073709551616) (hd : d < 18446744073709551616) :
    ∃ n, n < 115792089237316195423570985008687907853269984665640564039457584007913129639936 ∧ n = a + 18446744073709551616 * b + 340282366920938463463374607431768211456 * c + 6277101735386680763835789423207666416102355444464034512896 * d ∧ lim n 0 = a ∧ lim n 1 = b ∧ lim n 2 = c ∧ lim n 3 = d := by
  refine ⟨_, ?_, rfl, ?_, ?_, ?_, ?_⟩
  · omega
  all_goals unfold lim
  · rw [Nat.pow_zero, Nat.div_one]; omega
  · rw [Nat.pow_one]; omega
  · rw [show 18446744073709551616 ^ 2 = 340282366920938463463374607431768211456 from rfl]; omega
  · rw [show 18446744073709551616 ^ 3 = 6277101735386680763835789423207666416102355444464034512896 from rfl]; omega
theorem u4_one (a b c d : Nat) : (uq4 a b c d).all (·.oneCell') = true := rfl
theorem u4_eq {a b c d a' b' c' d' : Nat} : uq4 a b c d = uq4 a' b' c' d' ↔ a = a' ∧ b = b' ∧ c = c' ∧ d = d' := by
  simp only [uq4, List.cons.injEq, Value.int.injEq, and_true, true_and, Int.natCast_inj]
theorem uc_inj {n m : Nat} (hn : n < 115792089237316195423570985008687907853269984665640564039457584007913129639936) (hm : m < 115792089237316195423570985008687907853269984665640564039457584007913129639936) : uc n = uc m ↔ n = m := by
  constructor
  · intro h
    obtain ⟨h0, h1, h2, h3⟩ := u4_eq.1 h
    rw [lim_sum hn, lim_sum hm, h0, h1, h2, h3]
  · rintro rfl; rfl
set_option maxRecDepth 10000 in
set_option maxHeartbeats 1000000 in
theorem UOf (n : Nat) (h : n < 18446744073709551616) (w : World) : Calls Tryd.prog 41 #[.int .u64 (n : Int)] w fun e w' => e = .returned (.agg (uc n).toArray) ∧ Below w.heap.size w w' := by
  rw [uc_small h]
  go_enter Tryd.func41, Tryd.ntmps41
  go_wp2_with ((with_reducible refine wpList_storeF 54 ((Below.refl w.heap.size w).alloc (Nat.le_refl _) _) (heap_alloc_new _ _) (Nat.le_refl _) (uq4 n 0 0 0) ?_ ?_ 4 ?_ ?_ ?_ ?_ ?_); rfl; rfl; rfl; kernel_rfl; rfl; rfl; intro w6 a6 b6 k6 z6)
  refine bodyPost_ret (results_cell_row rfl _ _ w.heap.size _ _ (0, 0) _ (by rfl) a6 Tryd.underlying54 rfl (by kernel_rfl)) rfl ⟨rfl, b6⟩
end Go.Proofs.YtjgdmpbaikhflaaDoor
/- math/bits.Len64 (turned from the kit's worked proof of it). -/
namespace Go.Proofs.YtjgdmpbaikhflaaDoor
open Go.RowKit
set_option maxRecDepth 100000 in
theorem len8tab_size' : (Lib.len8tab.size : Int) = 256 := by
  have : Lib.len8tab.size = 256 := by decide
  omega
theorem wrap_add' (k a b : Nat) (hk : k ≤ 56) (ha : a ≤ 8) (hb : b = k + a) : RowKit.wrap64 ((k : Int) + RowKit.wrap64 (a : Int)) = (b : Int) := by
  unfold RowKit.wrap64
  omega
theorem wrap_wrap' (a : Nat) (ha : a ≤ 8) : RowKit.wrap64 (RowKit.wrap64 (a : Int)) = (a : Int) := by
  unfold RowKit.wrap64
  omega
theorem wrap_one' (a : Nat) (ha : a ≤ 8) : RowKit.wrap64 (a : Int) = (a : Int) := by
  unfold RowKit.wrap64
  omega
theorem len8_get' (y : Int) (h : y.toNat < Lib.len8tab.size) : ((Lib.len8tab[y.toNat]'h).toNat : Int) = Lib.len8 y := by
  unfold Lib.len8
  rw [getElem?_pos Lib.len8tab y.toNat h]
  rfl
set_option maxHeartbeats 32000000 in
set_option maxRecDepth 1000000 in
theorem Len64 (x : Int) (w : World) (h0 : 0 ≤ x) (h1 : x ≤ 18446744073709551615) :
    Calls Tryd.prog 70 #[.int .u64 x] w fun e w' => e = .returned (.int .i64 (Lib.bitLen x.toNat)) ∧ w' = w := by
  go_enter Tryd.func70, Tryd.ntmps70
  go_wp2
  all_goals first
    | (go_ret; refine ⟨congrArg Ending.returned (congrArg (Value.int IntKind.i64) ?_), rfl⟩; go_light)
    | (exfalso
       go_light
       have hs := len8tab_size'
       omega)
  all_goals first
    | (rw [len8_get' (x / 4294967296 / 65536 / 256) _, Lib.len8_of (x / 4294967296 / 65536 / 256) (by omega) (by omega)]
       have e : (x / 4294967296 / 65536 / 256).toNat = x.toNat / 72057594037927936 := by omega
       have l := Lib.bitLen_le8' (x / 4294967296 / 65536 / 256) (by omega) (by omega)
       have s := Lib.bitLen_shift56 x.toNat (by omega) (by omega)
       rw [e] at l ⊢
       exact wrap_add' 56 _ _ (by decide) l s)
    | (rw [len8_get' (x / 4294967296 / 65536) _, Lib.len8_of (x / 4294967296 / 65536) (by omega) (by omega)]
       have e : (x / 4294967296 / 65536).toNat = x.toNat / 281474976710656 := by omega
       have l := Lib.bitLen_le8' (x / 4294967296 / 65536) (by omega) (by omega)
       have s := Lib.bitLen_shift48 x.toNat (by omega) (by omega)
       rw [e] at l ⊢
       exact wrap_add' 48 _ _ (by decide) l s)
    | (rw [len8_get' (x / 4294967296 / 256) _, Lib.len8_of (x / 4294967296 / 256) (by omega) (by omega)]
       have e : (x / 4294967296 / 256).toNat = x.toNat / 1099511627776 := by omega
       have l := Lib.bitLen_le8' (x / 4294967296 / 256) (by omega) (by omega)
       have s := Lib.bitLen_shift40 x.toNat (by omega) (by omega)
       rw [e] at l ⊢
       exact wrap_add' 40 _ _ (by decide) l s)
    | (rw [len8_get' (x / 4294967296) _, Lib.len8_of (x / 4294967296) (by omega) (by omega)]
       have e : (x / 4294967296).toNat = x.toNat / 4294967296 := by omega
       have l := Lib.bitLen_le8' (x / 4294967296) (by omega) (by omega)
       have s := Lib.bitLen_shift32 x.toNat (by omega) (by omega)
       rw [e] at l ⊢
       exact wrap_add' 32 _ _ (by decide) l s)
    | (rw [len8_get' (x / 65536 / 256) _, Lib.len8_of (x / 65536 / 256) (by omega) (by omega)]
       have e : (x / 65536 / 256).toNat = x.toNat / 16777216 := by omega
       have l := Lib.bitLen_le8' (x / 65536 / 256) (by omega) (by omega)
       have s := Lib.bitLen_shift24 x.toNat (by omega) (by omega)
       rw [e] at l ⊢
       exact wrap_add' 24 _ _ (by decide) l s)
    | (rw [len8_get' (x / 65536) _, Lib.len8_of (x / 65536) (by omega) (by omega)]
       have e : (x / 65536).toNat = x.toNat / 65536 := by omega
       have l := Lib.bitLen_le8' (x / 65536) (by omega) (by omega)
       have s := Lib.bitLen_shift16 x.toNat (by omega) (by omega)
       rw [e] at l ⊢
       exact wrap_add' 16 _ _ (by decide) l s)
    | (rw [len8_get' (x / 256) _, Lib.len8_of (x / 256) (by omega) (by omega)]
       have e : (x / 256).toNat = x.toNat / 256 := by omega
       have l := Lib.bitLen_le8' (x / 256) (by omega) (by omega)
       have s := Lib.bitLen_shift8 x.toNat (by omega) (by omega)
       rw [e] at l ⊢
       exact wrap_add' 8 _ _ (by decide) l s)
    | (rw [len8_get' (x) _, Lib.len8_of (x) (by omega) (by omega)]
       have e : (x).toNat = x.toNat := by omega
       have l := Lib.bitLen_le8' (x) (by omega) (by omega)
       rw [e] at l ⊢
       first | exact wrap_wrap' _ l | exact wrap_add' 0 _ _ (by decide) l (by omega) | exact wrap_one' _ l)
end Go.Proofs.YtjgdmpbaikhflaaDoor
