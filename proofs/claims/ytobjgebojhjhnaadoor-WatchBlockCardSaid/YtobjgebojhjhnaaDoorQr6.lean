import Derived.Test.YtobjgebojhjhnaaDoorQr3
import Derived.Test.YtobjgebojhjhnaaDoorQr1
import Derived.StillTailTactics
import Derived.Laws.Rows
namespace Go.Proofs.YtobjgebojhjhnaaDoor
open Go.RowKit
theorem shr3 (x : W32) : wn x / (8 : Int) = wn (x >>> 3) := shr_wn x 3
theorem shr10 (x : W32) : wn x / (1024 : Int) = wn (x >>> 10) := shr_wn x 10
attribute [local go_sem high] shr3 shr10 bits_xor_wn bits_or_wn bits_and_wn wrap_add_wn
def wcs (l : List W32) : Array Value := (l.map wc).toArray
theorem wcs_size (l : List W32) : (wcs l).size = l.length := by simp [wcs]
theorem wcs_get (l : List W32) (i : Nat) (h : i < l.length) : (wcs l)[i]? = some (wc (l.getD i 0)) := by
 simp [wcs, List.getElem?_eq_getElem h]
theorem wcs_set (l : List W32) (i : Nat) (x : W32) : (wcs l).setIfInBounds i (wc x) = wcs (l.set i x) := by
 simp [wcs, List.map_set]
def Ar (w : World) (g : Nat) (t : TypeId) (l : List W32) : Prop := w.heap[g]? = some (.cells (wcs l) t (0, 0))
theorem Ar.cell {w : World} {g : Nat} {t : TypeId} {l : List W32} (h : Ar w g t l) (i : Nat) (hi : i < l.length) : w.cell? ⟨g, i, none⟩ = some (wc (l.getD i 0)) := by
 rw [cell_of_row w g i _ t _ h, wcs_get l i hi]
theorem Ar.set {w : World} {g : Nat} {t : TypeId} {l : List W32} (h : Ar w g t l) (i : Nat) (x : W32) : Ar (w.setCell ⟨g, i, none⟩ (wc x)) g t (l.set i x) := by
 unfold Ar
 rw [heap_setCell_same w g i _ t _ h, wcs_set]
theorem Ar.other {w : World} {g : Nat} {t : TypeId} {l : List W32} (h : Ar w g t l) (a : Addr) (v : Value) (hne : g ≠ a.block) : Ar (w.setCell a v) g t l := by
 unfold Ar
 rw [heap_setCell_other w a g v hne]
 exact h
theorem Ar.drew {w : World} {g : Nat} {t : TypeId} {l : List W32} (h : Ar w g t l) : Ar w.drew g t l := h
theorem Ar.lt {w : World} {g : Nat} {t : TypeId} {l : List W32} (h : Ar w g t l) : g < w.heap.size := (Array.getElem?_eq_some_iff.mp h).1
theorem Ar.below {w w' : World} {g : Nat} {t : TypeId} {l : List W32} (h : Ar w g t l) (hb : Below w.heap.size w w') : Ar w' g t l := by
 unfold Ar
 rw [hb.block g h.lt]
 exact h
theorem wn_zero : wn 0 = 0 := by rw [wn_def]; rfl
theorem wcs_zeros (n : Nat) : wcs (List.replicate n 0) = (List.replicate n (.int .u32 0)).toArray := by
 rw [wcs, List.map_replicate, wc, wn_zero]
def wb (b : UInt8) : W32 := BitVec.ofNat 32 b.toNat
theorem wn_wb (b : UInt8) : wn (wb b) = (b.toNat : Int) := by rw [wn_def, wb, BitVec.toNat_ofNat]; have := b.toNat_lt; omega
def be4 (bs : List UInt8) (i : Nat) : W32 := wb (bs.getD (4 * i) 0) <<< 24 ||| wb (bs.getD (4 * i + 1) 0) <<< 16 ||| wb (bs.getD (4 * i + 2) 0) <<< 8 ||| wb (bs.getD (4 * i + 3) 0)
theorem wb_shl (x : UInt8) (k : Nat) (m : Int) (hm : m = 2 ^ k) : ((x.toNat : Int) % 4294967296 * m) % 4294967296 = wn (wb x <<< k) := by
 rw [← shl_wn, IntKind.wrap_u32, wn_wb, hm]
 have := x.toNat_lt
 rw [Int.emod_eq_of_lt (a := (x.toNat : Int)) (by omega) (by omega)]
theorem be_word (x0 x1 x2 x3 : UInt8) :
  bits .or .u32 (bits .or .u32 (bits .or .u32 ((x0.toNat : Int) % 4294967296 * 16777216 % 4294967296) ((x1.toNat : Int) % 4294967296 * 65536 % 4294967296)) ((x2.toNat : Int) % 4294967296 * 256 % 4294967296)) ((x3.toNat : Int) % 4294967296)
   = wn (wb x0 <<< 24 ||| wb x1 <<< 16 ||| wb x2 <<< 8 ||| wb x3) := by
 have e3 : (x3.toNat : Int) % 4294967296 = wn (wb x3) := by rw [wn_wb]; have := x3.toNat_lt; omega
 rw [wb_shl x0 24 _ (by decide), wb_shl x1 16 _ (by decide), wb_shl x2 8 _ (by decide), e3, bits_or_wn, bits_or_wn, bits_or_wn]
def fill1 (bs : List UInt8) : Nat → List W32
 | 0 => List.replicate 64 0
 | k + 1 => (fill1 bs k).set k (be4 bs k)
theorem fill1_length (bs : List UInt8) (k : Nat) : (fill1 bs k).length = 64 := by
 induction k with
 | zero => simp [fill1]
 | succ k ih => simp [fill1, ih]
def s0 (x : W32) : W32 := rotr x 7 ^^^ rotr x 18 ^^^ x >>> 3
def s1 (x : W32) : W32 := rotr x 17 ^^^ rotr x 19 ^^^ x >>> 10
def sched (l : List W32) (i : Nat) : W32 := s1 (l.getD (i - 2) 0) + l.getD (i - 7) 0 + s0 (l.getD (i - 15) 0) + l.getD (i - 16) 0
def fill2 (l : List W32) : Nat → List W32
 | 0 => l
 | k + 1 => (fill2 l k).set (16 + k) (sched (fill2 l k) (16 + k))
theorem fill2_length (l : List W32) (k : Nat) : (fill2 l k).length = l.length := by
 induction k with
 | zero => simp [fill2]
 | succ k ih => simp [fill2, ih]
def shW (bs : List UInt8) : List W32 := fill2 (fill1 bs 16) 48
theorem shW_length (bs : List UInt8) : (shW bs).length = 64 := by rw [shW, fill2_length, fill1_length]
set_option maxRecDepth 10000 in
set_option maxHeartbeats 1000000 in
theorem words (bs : List UInt8) (A : Option Addr) (c : Nat) (hl : bs.length = 64) (w : World) (hr : Rd w A (bs.map bv)) :
  Calls Tryd.prog 104 #[.slice A 64 c] w fun e w' => e = .returned (.agg (wcs (shW bs))) ∧ Below w.heap.size w w' := by
 obtain ⟨blk, off, rfl, hbc⟩ : ∃ b off, A = some ⟨b, off, none⟩ ∧ ∀ j u, (bs.map bv)[j]? = some u → w.cell? ⟨b, off + j, none⟩ = some u := by
  rcases hr with h | h
  ·simp at h; subst h; simp at hl
  ·exact h
 have Hbc := Lib.hid hbc
 clear hbc hr
 go_enter Tryd.func104, Tryd.ntmps104
 go_wp2
 go_loopw [10] (fun i wr => ∃ k : Nat, k ≤ 16 ∧ i = .int .i64 k ∧ Below w.heap.size w wr ∧ Ar wr (w.heap.size + 1) 208 (fill1 bs k) ∧ Ar wr w.heap.size 208 (List.replicate 64 0)) (fun i _ => 16 - (intOf i).toNat)
 case atStart =>
  refine ⟨0, by omega, rfl, ((Below.refl _ _).alloc (Nat.le_refl _) _).alloc (by simp) _, ?_, ?_⟩
  ·rw [Ar, fill1, wcs_zeros]; exact heap_alloc2_new _ _ _
  ·rw [Ar, wcs_zeros]; exact heap_alloc2_old _ _ _
 case round =>
  obtain ⟨k, hk, rfl, hb, ha, hr0⟩ := hrel
  by_cases hk16 : k < 16
  ·have byte : ∀ i : Nat, i < 64 → wr.cell? ⟨blk, off + i, none⟩ = some (bv (bs.getD i 0)) := fun i hi => by
    have h := Hbc.out i (bv (bs.getD i 0)) (by simp [List.getElem?_eq_getElem (show i < bs.length by omega)])
    exact (hb.cell (p := ⟨blk, off + i, none⟩) (World.block_lt_of_cell? w _ h)).trans h
   have cell : ∀ i : Nat, i < 4 → ∃ (a : Int) (x : UInt8), a = 4 * (k : Int) + i ∧ x = bs.getD (4 * k + i) 0 ∧ 0 ≤ a ∧ a < 64 ∧ wr.cell? ⟨blk, off + a.toNat, none⟩ = some (bv x) := fun i hi =>
    ⟨_, _, rfl, rfl, by omega, by omega, by rw [show (4 * (k : Int) + i).toNat = 4 * k + i by omega]; exact byte _ (by omega)⟩
   obtain ⟨a0, x0, ha0, hx0, p0, q0, c0⟩ := cell 0 (by omega)
   obtain ⟨a1, x1, ha1, hx1, p1, q1, c1⟩ := cell 1 (by omega)
   obtain ⟨a2, x2, ha2, hx2, p2, q2, c2⟩ := cell 2 (by omega)
   obtain ⟨a3, x3, ha3, hx3, p3, q3, c3⟩ := cell 3 (by omega)
   have e0 : IntKind.i64.wrap (4 * (k : Int)) = a0 := by rw [IntKind.wrap_i64]; omega
   have e1 : IntKind.i64.wrap (a0 + 1) = a1 := by rw [IntKind.wrap_i64]; omega
   have e2 : IntKind.i64.wrap (a0 + 2) = a2 := by rw [IntKind.wrap_i64]; omega
   have e3 : IntKind.i64.wrap (a0 + 3) = a3 := by rw [IntKind.wrap_i64]; omega
   have hk0 : 0 ≤ (k : Int) := by omega
   have hk1 : (k : Int) < 64 := by omega
   have hlw : (fill1 bs k).getD k 0 = (fill1 bs k).getD k 0 := rfl
   have hce := ha.cell k (by rw [fill1_length]; omega)
   have Hx := Lib.hid (And.intro hx0 (And.intro hx1 (And.intro hx2 hx3)))
   clear hx0 hx1 hx2 hx3 ha0 ha1 ha2 ha3 byte cell hlw
   go_wp2
   go_still_tail 35, (by kernel_rfl)
   change wpList _ _ _ _ _ wr.drew
   have hfz : wr.frozen? ⟨w.heap.size + 1, k, none⟩ = false := frozen_of_row _ _ _ _ _ ha
   go_wp2
   obtain ⟨rfl, rfl, rfl, rfl⟩ := Hx.out
   rw [be_word]
   refine ⟨⟨k + 1, by omega, by go_num, (hb.setCell (by simp) _).drew, (ha.set k _).drew, (hr0.other _ _ (by simp)).drew⟩, ?_⟩
   simp [intOf]; omega
  ·obtain rfl : k = 16 := by omega
   clear hk16 hk Hbc
   go_wp2
   obtain ⟨w1, rfl⟩ : ∃ wo : World, wo = wr := ⟨_, rfl⟩
   have hl1 : (fill1 bs 16).length = 64 := fill1_length _ _
   obtain ⟨l1, hL1⟩ : ∃ l, l = fill1 bs 16 := ⟨_, rfl⟩
   rw [← hL1] at ha hl1
   replace hL1 := Lib.hid hL1
   go_loopw [5] (fun i wr => ∃ k : Nat, k ≤ 48 ∧ i = .int .i64 (16 + (k : Int)) ∧ Below w.heap.size w wr ∧ Ar wr (w.heap.size + 1) 208 (fill2 l1 k) ∧ Ar wr w.heap.size 208 (List.replicate 64 0)) (fun i _ => 64 - (intOf i).toNat)
   case atStart => exact ⟨0, by omega, rfl, hb, ha, hr0⟩
   case round =>
    obtain ⟨k, hk, rfl, hb, ha, hr0⟩ := hrel
    by_cases hk48 : k < 48
    ·have hl2 : (fill2 l1 k).length = 64 := by rw [fill2_length]; exact hl1
     have cell : ∀ j : Nat, j ≤ 16 → 0 < j → ∃ (a : Int) (x : W32), a = 16 + (k : Int) - j ∧ x = (fill2 l1 k).getD (16 + k - j) 0 ∧ 0 ≤ a ∧ a < 64 ∧ wr.cell? ⟨w.heap.size + 1, a.toNat, none⟩ = some (wc x) := fun j hj hj0 =>
      ⟨_, _, rfl, rfl, by omega, by omega, by rw [show (16 + (k : Int) - j).toNat = 16 + k - j by omega]; exact ha.cell _ (by omega)⟩
     obtain ⟨a0, x0, ha0, hx0, p0, q0, c0⟩ := cell 2 (by omega) (by omega)
     obtain ⟨a1, x1, ha1, hx1, p1, q1, c1⟩ := cell 7 (by omega) (by omega)
     obtain ⟨a2, x2, ha2, hx2, p2, q2, c2⟩ := cell 15 (by omega) (by omega)
     obtain ⟨a3, x3, ha3, hx3, p3, q3, c3⟩ := cell 16 (by omega) (by omega)
     have e0 : IntKind.i64.wrap (16 + (k : Int) - 2) = a0 := by rw [IntKind.wrap_i64]; omega
     have e1 : IntKind.i64.wrap (16 + (k : Int) - 7) = a1 := by rw [IntKind.wrap_i64]; omega
     have e2 : IntKind.i64.wrap (16 + (k : Int) - 15) = a2 := by rw [IntKind.wrap_i64]; omega
     have e3 : IntKind.i64.wrap (16 + (k : Int) - 16) = a3 := by rw [IntKind.wrap_i64]; omega
     have hk0 : 0 ≤ 16 + (k : Int) := by omega
     have hk1 : 16 + (k : Int) < 64 := by omega
     have hce := ha.cell (16 + (k : Int)).toNat (by omega)
     have hfz : wr.frozen? ⟨w.heap.size + 1, (16 + (k : Int)).toNat, none⟩ = false := frozen_of_row _ _ _ _ _ ha
     have Hx := Lib.hid (And.intro hx0 (And.intro hx1 (And.intro hx2 hx3)))
     clear hx0 hx1 hx2 hx3 ha0 ha1 ha2 ha3 cell
     have T0 := turned x2 7 7 rfl (by decide) (by decide)
     have T1 := turned x2 18 18 rfl (by decide) (by decide)
     have T2 := turned x0 17 17 rfl (by decide) (by decide)
     have T3 := turned x0 19 19 rfl (by decide) (by decide)
     go_wp2
     go_still (by kernel_rfl)
     change Exit.then _ _ _ _ wr.drew
     clear c0 c2
     replace c1 : wr.drew.cell? _ = _ := c1
     replace c3 : wr.drew.cell? _ = _ := c3
     replace hce : wr.drew.cell? _ = _ := hce
     replace hfz : wr.drew.frozen? _ = _ := hfz
     replace hb := hb.drew
     replace ha := ha.drew
     replace hr0 := hr0.drew
     generalize wr.drew = w2 at *
     go_wp2_with fail
     refine (T0 _).mono ?_
     rintro e w' ⟨rfl, rfl⟩
     go_wp2_with fail
     refine (T1 _).mono ?_
     rintro e w' ⟨rfl, rfl⟩
     go_wp2_with fail
     refine (T2 _).mono ?_
     rintro e w' ⟨rfl, rfl⟩
     go_wp2_with fail
     refine (T3 _).mono ?_
     rintro e w' ⟨rfl, rfl⟩
     go_wp2
     go_still_tail 15, (by kernel_rfl)
     change wpList _ _ _ _ _ (World.drew _)
     go_wp2
     refine ⟨?_, ?measure⟩
     iterate 48 (apply Exists.intro)
     refine ⟨?rel, rfl⟩
     case rel =>
      obtain ⟨rfl, rfl, rfl, rfl⟩ := Hx.out
      refine ⟨k + 1, by omega, by go_num, (hb.setCell (by simp) _).drew, ?_, (hr0.other _ _ (by simp)).drew⟩
      exact (ha.set (16 + k) (sched (fill2 l1 k) (16 + k))).drew
     case measure => simp [intOf]; omega
    ·obtain rfl : k = 48 := by omega
     clear hk48 hk
     have hl2 : (fill2 l1 48).length = 64 := by rw [fill2_length]; exact hl1
     obtain ⟨l2, hL2⟩ : ∃ l, l = fill2 l1 48 := ⟨_, rfl⟩
     rw [← hL2] at ha hl2
     replace hL2 : Hid (l2 = shW bs) := Lib.hid (by rw [hL2, hL1.out]; rfl)
     go_wp2_with (first
      | refine wpList_load_row rfl _ _ rfl _ rfl _ _ _ _ ha Tryd.underlying208 rfl (by rw [wcs_size, hl2]; kernel_rfl) ?_
      | refine wpList_store_row rfl _ _ _ rfl _ _ rfl rfl _ _ hr0 (by rw [wcs_size, hl2]; kernel_rfl) (by rw [wcs_size, wcs_size, hl2]; rfl) (by simp [wcs, Value.oneCell']) ?_)
     exact bodyPost_ret (v := .agg (wcs l2)) (results_cell_row rfl _ _ w.heap.size _ _ (0, 0) _ rfl (setRow_heap _ _ _ _ _ _ hr0) Tryd.underlying208 rfl (by rw [wcs_size, hl2]; kernel_rfl)) rfl ⟨by rw [← hL2.out], below_setRow hb _ _ (Nat.le_refl _)⟩
end Go.Proofs.YtobjgebojhjhnaaDoor
namespace Go.Proofs.YtobjgebojhjhnaaDoor
open Go.RowKit
theorem xor_max_wn (x : W32) : bits .xor .u32 IntKind.u32.max (wn x) = wn (~~~x) := by
 have h : IntKind.u32.max = wn (~~~0) := by rw [wn_def]; rfl
 rw [h, bits_xor_wn]
 congr 1
attribute [local go_sem high] bits_xor_wn bits_or_wn bits_and_wn wrap_add_wn xor_max_wn
def shRound (ka wk : W32) : List W32 → List W32
 | [v0, v1, v2, v3, v4, v5, v6, v7] =>
  let t1 := v7 + (rotr v4 6 ^^^ rotr v4 11 ^^^ rotr v4 25) + (v4 &&& v5 ^^^ ~~~v4 &&& v6) + ka + wk
  let t2 := (rotr v0 2 ^^^ rotr v0 13 ^^^ rotr v0 22) + (v0 &&& v1 ^^^ v0 &&& v2 ^^^ v1 &&& v2)
  [t1 + t2, v0, v1, v2, v3 + t1, v4, v5, v6]
 | v => v
theorem len8 {l : List W32} (h : l.length = 8) : ∃ v0 v1 v2 v3 v4 v5 v6 v7, l = [v0, v1, v2, v3, v4, v5, v6, v7] := by
 match l, h with
 | [v0, v1, v2, v3, v4, v5, v6, v7], _ => exact ⟨v0, v1, v2, v3, v4, v5, v6, v7, rfl⟩
theorem Ar.same {w w' : World} {g : Nat} {t : TypeId} {l : List W32} (h : Ar w g t l) (hs : w'.heap[g]? = w.heap[g]?) : Ar w' g t l := by
 unfold Ar; rw [hs]; exact h
theorem Ar.alloc {w : World} {g : Nat} {t : TypeId} {l : List W32} (h : Ar w g t l) (o : Obj) : Ar (w.alloc o) g t l :=
 h.same (heap_alloc_old _ _ h.lt)
theorem wpList_loadAr {P : Program} {ops : Array Oper} {rest : List Oper} {o : Oper} {a : Act} {w : World} {Q : Exit → Act → World → Prop} {g : Nat} {t : TypeId} {l : List W32} (h : Ar w g t l)
  (hgd : o.guard = none) (ty : TypeId) (x : Operand) (ho : o.op = .load ty x) (hx : a.eval x = .pointer (some ⟨g, 0, none⟩)) (d : TypeDesc) (n : Nat) (hn : l.length = n)
  (hu : P.underlying ty = some d) (hd : (match d with | .struct _ | .array _ _ => true | _ => false) = true) (hi : (P.info? ty).map (·.size) = some n)
  (k : wpList P ops Q rest (a.put o.dst (.agg (wcs l))) w) : wpList P ops Q (o :: rest) a w :=
 wpList_load_row hgd ty x ho g hx t (wcs l) (0, 0) d h hu hd (by rw [wcs_size, hn]; exact hi) k
theorem wpList_storeAr {P : Program} {ops : Array Oper} {rest : List Oper} {o : Oper} {a : Act} {w w0 : World} {B : Nat} {Q : Exit → Act → World → Prop} {g : Nat} {t : TypeId} {old : Array Value} (hb : Below B w0 w) (h : w.heap[g]? = some (.cells old t (0, 0))) (hB : B ≤ g)
  (hgd : o.guard = none) (ty : TypeId) (x y : Operand) (ho : o.op = .store ty x y) (hx : a.eval x = .pointer (some ⟨g, 0, none⟩)) (l : List W32) (hy : a.eval y = .agg (wcs l)) (n : Nat) (hn : l.length = n)
  (hi : (P.info? ty).map (·.size) = some n) (hold : old.size = n)
  (k : ∀ w2, Ar w2 g t l → Below B w0 w2 → (∀ k, k ≠ g → w2.heap[k]? = w.heap[k]?) → w2.heap.size = w.heap.size → wpList P ops Q rest (a.put o.dst undef) w2) : wpList P ops Q (o :: rest) a w :=
 wpList_store_row hgd ty x y ho g (wcs l) hx hy t old h (by rw [wcs_size, hn]; exact hi) (by rw [wcs_size, hn]; exact hold) (by simp [wcs, Value.oneCell'])
  (k _ (setRow_heap _ _ _ _ _ _ h) (below_setRow hb _ _ hB) (fun _ hk => setRow_other _ _ _ _ hk) (by simp))
def addv (h v : List W32) : Nat → List W32
 | 0 => v
 | k + 1 => (addv h v k).set k ((addv h v k).getD k 0 + h.getD k 0)
theorem addv_length (h v : List W32) (k : Nat) : (addv h v k).length = v.length := by
 induction k with
 | zero => rfl
 | succ k ih => rw [addv, List.length_set, ih]
theorem alloc_size (v : World) (o : Obj) : (v.alloc o).heap.size = v.heap.size + 1 := by simp
def shRounds (ws h : List W32) : Nat → List W32
 | 0 => h
 | k + 1 => shRound (kAt k) (ws.getD k 0) (shRounds ws h k)
theorem shRounds_length (ws h : List W32) (hh : h.length = 8) (k : Nat) : (shRounds ws h k).length = 8 := by
 induction k with
 | zero => exact hh
 | succ k ih =>
  obtain ⟨v0, v1, v2, v3, v4, v5, v6, v7, e⟩ := len8 ih
  rw [shRounds, e]; rfl
def shBlock (h : List W32) (bs : List UInt8) : List W32 := addv h (shRounds (shW bs) h 64) 8
structure BlkW (w wr : World) (g5 g6 : Nat) (h zs ws v : List W32) : Prop where
 b : Below w.heap.size w wr
 a1 : Ar wr w.heap.size 192 h
 a2 : Ar wr (w.heap.size + 1) 192 zs
 a5 : Ar wr g5 208 ws
 a6 : Ar wr g6 192 v
 t : Tabs wr
theorem BlkW.drew {w wr : World} {g5 g6 : Nat} {h zs ws v : List W32} (B : BlkW w wr g5 g6 h zs ws v) : BlkW w wr.drew g5 g6 h zs ws v :=
 ⟨B.b.drew, B.a1, B.a2, B.a5, B.a6, ⟨B.t.k, B.t.i⟩⟩
set_option maxRecDepth 10000 in
set_option maxHeartbeats 4000000 in
theorem Block (hin : List W32) (hh : hin.length = 8) (bs : List UInt8) (A : Option Addr) (c : Nat) (hl : bs.length = 64) (w : World) (hr : Rd w A (bs.map bv)) (ht : Tabs w) :
    Calls Tryd.prog 100 #[.agg (wcs hin), .slice A 64 c] w fun e w' => e = .returned (.agg (wcs (shBlock hin bs))) ∧ Below w.heap.size w w' := by
  go_enter Tryd.func100, Tryd.ntmps100
  obtain ⟨ws, hws⟩ : ∃ ws, ws = shW bs := ⟨_, rfl⟩
  have hwl : ws.length = 64 := by rw [hws, shW_length]
  have W := words bs A c hl
  rw [← hws] at W
  replace hws := Lib.hid hws
  obtain ⟨zs, hzs⟩ : ∃ zs : List W32, zs = List.replicate 8 0 := ⟨_, rfl⟩
  have hzl : zs.length = 8 := by rw [hzs]; rfl
  have hz : #[Value.int IntKind.u32 0, Value.int IntKind.u32 0, Value.int IntKind.u32 0, Value.int IntKind.u32 0, Value.int IntKind.u32 0, Value.int IntKind.u32 0, Value.int IntKind.u32 0, Value.int IntKind.u32 0] = wcs zs := by rw [hzs, wcs_zeros]; rfl
  clear hzs
  replace W := Lib.hid W
  replace hzl := Lib.hid hzl
  replace hh := Lib.hid hh
  replace hwl := Lib.hid hwl
  go_wp2_with fail
  have hb0 : Below w.heap.size w ((w.alloc (.cells (wcs hin) 192)).alloc (.cells (wcs zs) 192)) := ((Below.refl _ _).alloc (Nat.le_refl _) _).alloc (by simp) _
  have ha1 : Ar ((w.alloc (.cells (wcs hin) 192)).alloc (.cells (wcs zs) 192)) w.heap.size 192 hin := heap_alloc2_old _ _ _
  have ha2 : Ar ((w.alloc (.cells (wcs hin) 192)).alloc (.cells (wcs zs) 192)) (w.heap.size + 1) 192 zs := heap_alloc2_new _ _ _
  clear hz
  generalize (w.alloc (.cells (wcs hin) 192)).alloc (.cells (wcs zs) 192) = w0 at *
  refine (W.out w0 (hr.below hb0)).mono ?_
  rintro e w1 ⟨rfl, hb1⟩
  replace ha1 := ha1.below hb1
  replace ha2 := ha2.below hb1
  have q5 := Lib.hid ha2.lt
  replace hb1 := hb0.trans (hb1.mono hb0.size)
  clear hb0
  go_wp2_with (first
    | (refine wpList_storeAr (hb1.alloc (hb1.size) _) (heap_alloc_new _ _) hb1.size rfl _ _ _ rfl rfl ws rfl 64 hwl.out (by kernel_rfl) rfl ?_
       intro w2 a5 b2 k2 z2
       replace ha1 := (ha1.alloc _).same (k2 _ (Nat.ne_of_lt ha1.lt))
       replace ha2 := (ha2.alloc _).same (k2 _ (Nat.ne_of_lt ha2.lt))
       rw [alloc_size] at z2
       replace z2 := Lib.hid z2
       clear k2)
    | refine wpList_loadAr ha1 rfl _ _ rfl rfl _ 8 hh.out Tryd.underlying192 rfl (by kernel_rfl) ?_
    | (refine wpList_storeAr (b2.alloc (b2.size) _) (heap_alloc_new _ _) b2.size rfl _ _ _ rfl rfl hin rfl 8 hh.out (by kernel_rfl) rfl ?_
       intro w3 a6 b3 k3 z3
       replace ha1 := (ha1.alloc _).same (k3 _ (Nat.ne_of_lt ha1.lt))
       replace ha2 := (ha2.alloc _).same (k3 _ (Nat.ne_of_lt ha2.lt))
       replace a5 := (a5.alloc _).same (k3 _ (Nat.ne_of_lt a5.lt))
       rw [alloc_size] at z3
       replace z3 := Lib.hid z3
       clear k3))
  have B0 : BlkW w w3 w1.heap.size w2.heap.size hin zs ws hin := ⟨b3, ha1, ha2, a5, a6, ht.below b3⟩
  clear b2 b3 ha1 ha2 a5 a6 W hr hb1
  go_loopw [22] (fun i wr => ∃ k : Nat, k ≤ 64 ∧ i = .int .i64 k ∧ BlkW w wr w1.heap.size w2.heap.size hin zs ws (shRounds ws hin k)) (fun i _ => 64 - (intOf i).toNat)
  case atStart => exact ⟨0, by omega, rfl, B0⟩
  case round =>
    clear B0
    obtain ⟨k, hk, rfl, B⟩ := hrel
    by_cases hk64 : k < 64
    · have hvl := shRounds_length ws hin hh.out k
      obtain ⟨v, hv⟩ : ∃ v, v = shRounds ws hin k := ⟨_, rfl⟩
      rw [← hv] at B hvl
      replace hv := Lib.hid hv
      obtain ⟨v0, v1, v2, v3, v4, v5, v6, v7, rfl⟩ := len8 hvl
      clear hvl
      obtain ⟨x, hx⟩ : ∃ x, x = ws.getD k 0 := ⟨_, rfl⟩
      have hcw : ∀ W, Ar W w1.heap.size 208 ws → W.cell? ⟨w1.heap.size, k, none⟩ = some (wc x) := fun W a => by rw [hx]; exact a.cell k (by rw [hwl.out]; exact hk64)
      replace hx := Lib.hid hx
      replace hcw := Lib.hid hcw
      have hk0 : 0 ≤ (k : Int) := by omega
      have hk1 : (k : Int) < 64 := by omega
      have T6 := turned v4 6 6 rfl (by decide) (by decide)
      have T11 := turned v4 11 11 rfl (by decide) (by decide)
      have T25 := turned v4 25 25 rfl (by decide) (by decide)
      have T2 := turned v0 2 2 rfl (by decide) (by decide)
      have T13 := turned v0 13 13 rfl (by decide) (by decide)
      have T22 := turned v0 22 22 rfl (by decide) (by decide)
      have c4 : wr.cell? _ = some (wc v4) := B.a6.cell 4 (by simp)
      go_wp2
      refine wp_region_still_lit (by kernel_rfl) (by kernel_rfl) ?_
      repeat still_step
      still_call (T6 _)
      repeat still_step
      still_call (T11 _)
      repeat still_step
      still_call (T25 _)
      repeat still_step
      refine wpStill_nil ?_
      change Exit.then _ _ _ _ wr.drew
      clear c4
      replace B := B.drew
      generalize wr.drew = wa at B ⊢
      have c4 : wa.cell? _ = some (wc v4) := B.a6.cell 4 (by simp)
      have c5 : wa.cell? _ = some (wc v5) := B.a6.cell 5 (by simp)
      have c6 : wa.cell? _ = some (wc v6) := B.a6.cell 6 (by simp)
      have c7 : wa.cell? _ = some (wc v7) := B.a6.cell 7 (by simp)
      have cw := hcw.out wa B.a5
      go_wp2
      refine wp_region_still_lit (by kernel_rfl) (by kernel_rfl) ?_
      repeat still_step
      still_call (Constant _ hk0 hk1 _ ⟨B.t.k, B.t.i⟩)
      repeat still_step
      refine wpStill_nil ?_
      change Exit.then _ _ _ _ wa.drew
      clear c4 c5 c6 c7 cw
      replace B := B.drew
      generalize wa.drew = wb at B ⊢
      have c0 : wb.cell? _ = some (wc v0) := B.a6.cell 0 (by simp)
      go_wp2
      refine wp_region_still_lit (by kernel_rfl) (by kernel_rfl) ?_
      repeat still_step
      still_call (T2 _)
      repeat still_step
      still_call (T13 _)
      repeat still_step
      still_call (T22 _)
      repeat still_step
      refine wpStill_nil ?_
      change Exit.then _ _ _ _ wb.drew
      clear c0
      replace B := B.drew
      generalize wb.drew = wd at B ⊢
      have c0 : wd.cell? _ = some (wc v0) := B.a6.cell 0 (by simp)
      have c1 : wd.cell? _ = some (wc v1) := B.a6.cell 1 (by simp)
      have c2 : wd.cell? _ = some (wc v2) := B.a6.cell 2 (by simp)
      have c3 : wd.cell? _ = some (wc v3) := B.a6.cell 3 (by simp)
      have c4 : wd.cell? _ = some (wc v4) := B.a6.cell 4 (by simp)
      have c5 : wd.cell? _ = some (wc v5) := B.a6.cell 5 (by simp)
      have c6 : wd.cell? _ = some (wc v6) := B.a6.cell 6 (by simp)
      have c7 : wd.cell? _ = some (wc v7) := B.a6.cell 7 (by simp)
      go_wp2_with (refine wpList_storeAr B.b B.a6 (by have := q5.out; have := z2.out; omega) rfl _ _ _ rfl rfl (shRound (kAt k) x [v0, v1, v2, v3, v4, v5, v6, v7]) rfl 8 rfl (by kernel_rfl) rfl ?_; intro w4 a6 b4 k4 z4)
      have n1 : w.heap.size ≠ w2.heap.size := by have := q5.out; have := z2.out; omega
      have n2 : w.heap.size + 1 ≠ w2.heap.size := by have := q5.out; have := z2.out; omega
      have n5 : w1.heap.size ≠ w2.heap.size := by have := z2.out; omega
      refine ⟨⟨k + 1, by omega, by go_num, ⟨b4, B.a1.same (k4 _ n1), B.a2.same (k4 _ n2), B.a5.same (k4 _ n5), ?_, ht.below b4⟩⟩, ?_⟩
      · rw [shRounds, ← hv.out, ← hx.out]; exact a6
      · simp [intOf]; omega
    · obtain rfl : k = 64 := by omega
      clear hk64 hk
      have hvl := shRounds_length ws hin hh.out 64
      obtain ⟨v, hv⟩ : ∃ v, v = shRounds ws hin 64 := ⟨_, rfl⟩
      rw [← hv] at B hvl
      replace hv := Lib.hid hv
      replace hvl := Lib.hid hvl
      obtain ⟨wo, rfl⟩ : ∃ wo : World, wo = wr := ⟨_, rfl⟩
      go_wp2
      go_loopw [113] (fun i wr => ∃ k : Nat, k ≤ 8 ∧ i = .int .i64 k ∧ BlkW w wr w1.heap.size w2.heap.size hin zs ws (addv hin v k)) (fun i _ => 8 - (intOf i).toNat)
      case atStart => exact ⟨0, by omega, rfl, B⟩
      case round =>
        clear B
        obtain ⟨k, hk, rfl, B⟩ := hrel
        by_cases hk8 : k < 8
        · have hk0 : 0 ≤ (k : Int) := by omega
          have hk1 : (k : Int) < 8 := by omega
          have hce := B.a6.cell k (by rw [addv_length, hvl.out]; exact hk8)
          have hc1 := B.a1.cell k (by rw [hh.out]; exact hk8)
          have hfz : wr.frozen? ⟨w2.heap.size, k, none⟩ = false := frozen_of_row _ _ _ _ _ B.a6
          obtain ⟨x, hx⟩ : ∃ x, x = (addv hin v k).getD k 0 := ⟨_, rfl⟩
          obtain ⟨y, hy⟩ : ∃ y, y = hin.getD k 0 := ⟨_, rfl⟩
          rw [← hx] at hce
          rw [← hy] at hc1
          replace hx := Lib.hid hx
          replace hy := Lib.hid hy
          go_wp2
          go_still_tail 8, (by kernel_rfl)
          change wpList _ _ _ _ _ (World.drew _)
          go_wp2
          refine ⟨?_, ?measure⟩
          iterate 13 (apply Exists.intro)
          refine ⟨?rel, rfl⟩
          case rel =>
            have n1 : w.heap.size ≠ w2.heap.size := by have := q5.out; have := z2.out; omega
            have n2 : w.heap.size + 1 ≠ w2.heap.size := by have := q5.out; have := z2.out; omega
            have n5 : w1.heap.size ≠ w2.heap.size := by have := z2.out; omega
            have b4 := (B.b.setCell (p := ⟨w2.heap.size, k, none⟩) (by have := q5.out; have := z2.out; simp only; omega) (wc (x + y))).drew
            refine ⟨k + 1, by omega, by go_num, ⟨b4, (B.a1.other _ _ n1).drew, (B.a2.other _ _ n2).drew, (B.a5.other _ _ n5).drew, ?_, ht.below b4⟩⟩
            rw [addv, ← hx.out, ← hy.out]
            exact (B.a6.set k (x + y)).drew
          case measure => simp [intOf]; omega
        · obtain rfl : k = 8 := by omega
          clear hk8 hk
          have hvl2 : (addv hin v 8).length = 8 := by rw [addv_length, hvl.out]
          obtain ⟨v2, hv2⟩ : ∃ l, l = addv hin v 8 := ⟨_, rfl⟩
          rw [← hv2] at B hvl2
          replace hv2 : Hid (v2 = shBlock hin bs) := Lib.hid (by rw [hv2, hv.out, hws.out]; rfl)
          go_wp2_with (first
            | refine wpList_loadAr B.a6 rfl _ _ rfl rfl _ 8 hvl2 Tryd.underlying192 rfl (by kernel_rfl) ?_
            | (refine wpList_storeAr B.b B.a2 (by omega) rfl _ _ _ rfl rfl v2 rfl 8 hvl2 (by kernel_rfl) (by rw [wcs_size, hzl.out]) ?_
               intro w4 a2 b4 k4 z4))
          exact bodyPost_ret (v := .agg (wcs v2)) (results_cell_row rfl _ _ (w.heap.size + 1) _ _ (0, 0) _ rfl a2 Tryd.underlying192 rfl (by rw [wcs_size, hvl2]; kernel_rfl)) rfl ⟨by rw [← hv2.out], b4⟩
end Go.Proofs.YtobjgebojhjhnaaDoor
