/- words: the schedule of SHA-256. -/
import Derived.Test.YtjgdmpbaikhflaaDoorPr1
import Derived.Test.YtjgdmpbaikhflaaDoorPr3
import Derived.StillTailTactics
import Derived.Laws.Rows
namespace Go.Proofs.YtjgdmpbaikhflaaDoor
open Go.RowKit
theorem shr3 (x : W32) : wn x / (8 : Int) = wn (x >>> 3) := shr_wn x 3
theorem shr10 (x : W32) : wn x / (1024 : Int) = wn (x >>> 10) := shr_wn x 10
attribute [local go_sem high] shr3 shr10 bits_xor_wn bits_or_wn bits_and_wn wrap_add_wn

/-- An array of words as a block's cells. -/
def wcs (l : List W32) : Array Value := (l.map wc).toArray
theorem wcs_size (l : List W32) : (wcs l).size = l.length := by simp [wcs]
theorem wcs_get (l : List W32) (i : Nat) (h : i < l.length) : (wcs l)[i]? = some (wc (l.getD i 0)) := by
  simp [wcs, List.getElem?_eq_getElem h]
theorem wcs_set (l : List W32) (i : Nat) (x : W32) : (wcs l).setIfInBounds i (wc x) = wcs (l.set i x) := by
  simp [wcs, List.map_set]
/-- Block g holds just the words l. -/
def Ar (w : World) (g : Nat) (t : TypeId) (l : List W32) : Prop := w.heap[g]? = some (.cells (wcs l) t (0, 0))
theorem Ar.cell {w : World} {g : Nat} {t : TypeId} {l : List W32} (h : Ar w g t l) (i : Nat) (hi : i < l.length) : w.cell? ⟨g, i, none⟩ = some (wc (l.getD i 0)) := by
  rw [cell_of_row w g i _ t _ h, wcs_get l i hi]

theorem Ar.set {w : World} {g : Nat} {t : TypeId} {l : List W32} (h : Ar w g t l) (i : Nat) (x : W32) : Ar (w.setCell ⟨g, i, none⟩ (wc x)) g t (l.set i x) := by
  unfold Ar
  rw [heap_setCell_same w g i _ t _ h, wcs_set]
theorem Ar.other {w : World} {g : Nat} {t : TypeId} {l : List W32} (h : Ar w g t l) (a : Addr) (v : Value) (hne : g ≠ a.block) : Ar (w.setCell a v) g t l := by
  unfold Ar
  rw [heap_setCell_other w a g v hne]
  exact h
theorem Ar.drew {w : World} {g : Nat} {t : TypeId} {l : List W32} (h : Ar w g t l) : Ar w.drew g t l := h
theorem Ar.lt {w : World} {g : Nat} {t : TypeId} {l : List W32} (h : Ar w g t l) : g < w.heap.size := (Array.getElem?_eq_some_iff.mp h).1
theorem Ar.below {w w' : World} {g : Nat} {t : TypeId} {l : List W32} (h : Ar w g t l) (hb : Below w.heap.size w w') : Ar w' g t l := by
  unfold Ar
  rw [hb.block g h.lt]
  exact h
theorem wn_zero : wn 0 = 0 := by rw [wn_def]; rfl
theorem wcs_zeros (n : Nat) : wcs (List.replicate n 0) = (List.replicate n (.int .u32 0)).toArray := by
  rw [wcs, List.map_replicate, wc, wn_zero]

/-- a byte as a word -/
def wb (b : UInt8) : W32 := BitVec.ofNat 32 b.toNat
theorem wn_wb (b : UInt8) : wn (wb b) = (b.toNat : Int) := by rw [wn_def, wb, BitVec.toNat_ofNat]; have := b.toNat_lt; omega
/-- four bytes as a word, the greatest ahead -/
def be4 (bs : List UInt8) (i : Nat) : W32 := wb (bs.getD (4 * i) 0) <<< 24 ||| wb (bs.getD (4 * i + 1) 0) <<< 16 ||| wb (bs.getD (4 * i + 2) 0) <<< 8 ||| wb (bs.getD (4 * i + 3) 0)
theorem wb_shl (x : UInt8) (k : Nat) (m : Int) (hm : m = 2 ^ k) : ((x.toNat : Int) % 4294967296 * m) % 4294967296 = wn (wb x <<< k) := by
  rw [← shl_wn, IntKind.wrap_u32, wn_wb, hm]
  have := x.toNat_lt
  rw [Int.emod_eq_of_lt (a := (x.toNat : Int)) (by omega) (by omega)]
theorem be_word (x0 x1 x2 x3 : UInt8) :
    bits .or .u32 (bits .or .u32 (bits .or .u32 ((x0.toNat : Int) % 4294967296 * 16777216 % 4294967296) ((x1.toNat : Int) % 4294967296 * 65536 % 4294967296)) ((x2.toNat : Int) % 4294967296 * 256 % 4294967296)) ((x3.toNat : Int) % 4294967296)
      = wn (wb x0 <<< 24 ||| wb x1 <<< 16 ||| wb x2 <<< 8 ||| wb x3) := by
  have e3 : (x3.toNat : Int) % 4294967296 = wn (wb x3) := by rw [wn_wb]; have := x3.toNat_lt; omega
  rw [wb_shl x0 24 _ (by decide), wb_shl x1 16 _ (by decide), wb_shl x2 8 _ (by decide), e3, bits_or_wn, bits_or_wn, bits_or_wn]
def fill1 (bs : List UInt8) : Nat → List W32
  | 0 => List.replicate 64 0
  | k + 1 => (fill1 bs k).set k (be4 bs k)
theorem fill1_length (bs : List UInt8) (k : Nat) : (fill1 bs k).length = 64 := by
  induction k with
  | zero => simp [fill1]
  | succ k ih => simp [fill1, ih]

def s0 (x : W32) : W32 := rotr x 7 ^^^ rotr x 18 ^^^ x >>> 3
def s1 (x : W32) : W32 := rotr x 17 ^^^ rotr x 19 ^^^ x >>> 10
def sched (l : List W32) (i : Nat) : W32 := s1 (l.getD (i - 2) 0) + l.getD (i - 7) 0 + s0 (l.getD (i - 15) 0) + l.getD (i - 16) 0
def fill2 (l : List W32) : Nat → List W32
  | 0 => l
  | k + 1 => (fill2 l k).set (16 + k) (sched (fill2 l k) (16 + k))
theorem fill2_length (l : List W32) (k : Nat) : (fill2 l k).length = l.length := by
  induction k with
  | zero => simp [fill2]
  | succ k ih => simp [fill2, ih]

/-- the schedule of a block -/
def shW (bs : List UInt8) : List W32 := fill2 (fill1 bs 16) 48
theorem shW_length (bs : List UInt8) : (shW bs).length = 64 := by rw [shW, fill2_length, fill1_length]

set_option maxRecDepth 10000 in
set_option maxHeartbeats 1000000 in
theorem words (bs : List UInt8) (A : Option Addr) (c : Nat) (hl : bs.length = 64) (w : World) (hr : Rd w A (bs.map bv)) :
    Calls Tryd.prog 71 #[.slice A 64 c] w fun e w' => e = .returned (.agg (wcs (shW bs))) ∧ Below w.heap.size w w' := by
  obtain ⟨blk, off, rfl, hbc⟩ : ∃ b off, A = some ⟨b, off, none⟩ ∧ ∀ j u, (bs.map bv)[j]? = some u → w.cell? ⟨b, off + j, none⟩ = some u := by
    rcases hr with h | h
    · simp at h; subst h; simp at hl
    · exact h
  have Hbc := Lib.hid hbc
  clear hbc hr
  go_enter Tryd.func71, Tryd.ntmps71
  go_wp2
  go_loopw [10] (fun i wr => ∃ k : Nat, k ≤ 16 ∧ i = .int .i64 k ∧ Below w.heap.size w wr ∧ Ar wr (w.heap.size + 1) 104 (fill1 bs k) ∧ Ar wr w.heap.size 104 (List.replicate 64 0)) (fun i _ => 16 - (intOf i).toNat)
  case atStart =>
    refine ⟨0, by omega, rfl, ((Below.refl _ _).alloc (Nat.le_refl _) _).alloc (by simp) _, ?_, ?_⟩
    · rw [Ar, fill1, wcs_zeros]; exact heap_alloc2_new _ _ _
    · rw [Ar, wcs_zeros]; exact heap_alloc2_old _ _ _
  case round =>
    obtain ⟨k, hk, rfl, hb, ha, hr0⟩ := hrel
    by_cases hk16 : k < 16
    · have byte : ∀ i : Nat, i < 64 → wr.cell? ⟨blk, off + i, none⟩ = some (bv (bs.getD i 0)) := fun i hi => by
        have h := Hbc.out i (bv (bs.getD i 0)) (by simp [List.getElem?_eq_getElem (show i < bs.length by omega)])
        exact (hb.cell (p := ⟨blk, off + i, none⟩) (World.block_lt_of_cell? w _ h)).trans h
      have cell : ∀ i : Nat, i < 4 → ∃ (a : Int) (x : UInt8), a = 4 * (k : Int) + i ∧ x = bs.getD (4 * k + i) 0 ∧ 0 ≤ a ∧ a < 64 ∧ wr.cell? ⟨blk, off + a.toNat, none⟩ = some (bv x) := fun i hi =>
        ⟨_, _, rfl, rfl, by omega, by omega, by rw [show (4 * (k : Int) + i).toNat = 4 * k + i by omega]; exact byte _ (by omega)⟩
      obtain ⟨a0, x0, ha0, hx0, p0, q0, c0⟩ := cell 0 (by omega)
      obtain ⟨a1, x1, ha1, hx1, p1, q1, c1⟩ := cell 1 (by omega)
      obtain ⟨a2, x2, ha2, hx2, p2, q2, c2⟩ := cell 2 (by omega)
      obtain ⟨a3, x3, ha3, hx3, p3, q3, c3⟩ := cell 3 (by omega)
      have e0 : IntKind.i64.wrap (4 * (k : Int)) = a0 := by rw [IntKind.wrap_i64]; omega
      have e1 : IntKind.i64.wrap (a0 + 1) = a1 := by rw [IntKind.wrap_i64]; omega
      have e2 : IntKind.i64.wrap (a0 + 2) = a2 := by rw [IntKind.wrap_i64]; omega
      have e3 : IntKind.i64.wrap (a0 + 3) = a3 := by rw [IntKind.wrap_i64]; omega
      have hk0 : 0 ≤ (k : Int) := by omega
      have hk1 : (k : Int) < 64 := by omega
      have hlw : (fill1 bs k).getD k 0 = (fill1 bs k).getD k 0 := rfl
      have hce := ha.cell k (by rw [fill1_length]; omega)
      have Hx := Lib.hid (And.intro hx0 (And.intro hx1 (And.intro hx2 hx3)))
      clear hx0 hx1 hx2 hx3 ha0 ha1 ha2 ha3 byte cell hlw
      go_wp2
      go_still_tail 35, (by kernel_rfl)
      change wpList _ _ _ _ _ wr.drew
      have hfz : wr.frozen? ⟨w.heap.size + 1, k, none⟩ = false := frozen_of_row _ _ _ _ _ ha
      go_wp2
      obtain ⟨rfl, rfl, rfl, rfl⟩ := Hx.out
      rw [be_word]
      refine ⟨⟨k + 1, by omega, by go_num, (hb.setCell (by simp) _).drew, (ha.set k _).drew, (hr0.other _ _ (by simp)).drew⟩, ?_⟩
      simp [intOf]; omega
    · obtain rfl : k = 16 := by omega
      clear hk16 hk Hbc
      go_wp2
      obtain ⟨w1, rfl⟩ : ∃ wo : World, wo = wr := ⟨_, rfl⟩
      have hl1 : (fill1 bs 16).length = 64 := fill1_length _ _
      obtain ⟨l1, hL1⟩ : ∃ l, l = fill1 bs 16 := ⟨_, rfl⟩
      rw [← hL1] at ha hl1
      replace hL1 := Lib.hid hL1
      go_loopw [5] (fun i wr => ∃ k : Nat, k ≤ 48 ∧ i = .int .i64 (16 + (k : Int)) ∧ Below w.heap.size w wr ∧ Ar wr (w.heap.size + 1) 104 (fill2 l1 k) ∧ Ar wr w.heap.size 104 (List.replicate 64 0)) (fun i _ => 64 - (intOf i).toNat)
      case atStart => exact ⟨0, by omega, rfl, hb, ha, hr0⟩
      case round =>
        obtain ⟨k, hk, rfl, hb, ha, hr0⟩ := hrel
        by_cases hk48 : k < 48
        · have hl2 : (fill2 l1 k).length = 64 := by rw [fill2_length]; exact hl1
          have cell : ∀ j : Nat, j ≤ 16 → 0 < j → ∃ (a : Int) (x : W32), a = 16 + (k : Int) - j ∧ x = (fill2 l1 k).getD (16 + k - j) 0 ∧ 0 ≤ a ∧ a < 64 ∧ wr.cell? ⟨w.heap.size + 1, a.toNat, none⟩ = some (wc x) := fun j hj hj0 =>
            ⟨_, _, rfl, rfl, by omega, by omega, by rw [show (16 + (k : Int) - j).toNat = 16 + k - j by omega]; exact ha.cell _ (by omega)⟩
          obtain ⟨a0, x0, ha0, hx0, p0, q0, c0⟩ := cell 2 (by omega) (by omega)
          obtain ⟨a1, x1, ha1, hx1, p1, q1, c1⟩ := cell 7 (by omega) (by omega)
          obtain ⟨a2, x2, ha2, hx2, p2, q2, c2⟩ := cell 15 (by omega) (by omega)
          obtain ⟨a3, x3, ha3, hx3, p3, q3, c3⟩ := cell 16 (by omega) (by omega)
          have e0 : IntKind.i64.wrap (16 + (k : Int) - 2) = a0 := by rw [IntKind.wrap_i64]; omega
          have e1 : IntKind.i64.wrap (16 + (k : Int) - 7) = a1 := by rw [IntKind.wrap_i64]; omega
          have e2 : IntKind.i64.wrap (16 + (k : Int) - 15) = a2 := by rw [IntKind.wrap_i64]; omega
          have e3 : IntKind.i64.wrap (16 + (k : Int) - 16) = a3 := by rw [IntKind.wrap_i64]; omega
          have hk0 : 0 ≤ 16 + (k : Int) := by omega
          have hk1 : 16 + (k : Int) < 64 := by omega
          have hce := ha.cell (16 + (k : Int)).toNat (by omega)
          have hfz : wr.frozen? ⟨w.heap.size + 1, (16 + (k : Int)).toNat, none⟩ = false := frozen_of_row _ _ _ _ _ ha
          have Hx := Lib.hid (And.intro hx0 (And.intro hx1 (And.intro hx2 hx3)))
          clear hx0 hx1 hx2 hx3 ha0 ha1 ha2 ha3 cell
          have T0 := turned x2 7 7 rfl (by decide) (by decide)
          have T1 := turned x2 18 18 rfl (by decide) (by decide)
          have T2 := turned x0 17 17 rfl (by decide) (by decide)
          have T3 := turned x0 19 19 rfl (by decide) (by decide)
          go_wp2
          go_still (by kernel_rfl)
          change Exit.then _ _ _ _ wr.drew
          clear c0 c2
          replace c1 : wr.drew.cell? _ = _ := c1
          replace c3 : wr.drew.cell? _ = _ := c3
          replace hce : wr.drew.cell? _ = _ := hce
          replace hfz : wr.drew.frozen? _ = _ := hfz
          replace hb := hb.drew
          replace ha := ha.drew
          replace hr0 := hr0.drew
          generalize wr.drew = w2 at *
          go_wp2_with fail
          refine (T0 _).mono ?_
          rintro e w' ⟨rfl, rfl⟩
          go_wp2_with fail
          refine (T1 _).mono ?_
          rintro e w' ⟨rfl, rfl⟩
          go_wp2_with fail
          refine (T2 _).mono ?_
          rintro e w' ⟨rfl, rfl⟩
          go_wp2_with fail
          refine (T3 _).mono ?_
          rintro e w' ⟨rfl, rfl⟩
          go_wp2
          go_still_tail 15, (by kernel_rfl)
          change wpList _ _ _ _ _ (World.drew _)
          go_wp2
          refine ⟨?_, ?measure⟩
          iterate 48 (apply Exists.intro)
          refine ⟨?rel, rfl⟩
          case rel =>
            obtain ⟨rfl, rfl, rfl, rfl⟩ := Hx.out
            refine ⟨k + 1, by omega, by go_num, (hb.setCell (by simp) _).drew, ?_, (hr0.other _ _ (by simp)).drew⟩
            exact (ha.set (16 + k) (sched (fill2 l1 k) (16 + k))).drew
          case measure => simp [intOf]; omega
        · obtain rfl : k = 48 := by omega
          clear hk48 hk
          have hl2 : (fill2 l1 48).length = 64 := by rw [fill2_length]; exact hl1
          obtain ⟨l2, hL2⟩ : ∃ l, l = fill2 l1 48 := ⟨_, rfl⟩
          rw [← hL2] at ha hl2
          replace hL2 : Hid (l2 = shW bs) := Lib.hid (by rw [hL2, hL1.out]; rfl)
          go_wp2_with (first
            | refine wpList_load_row rfl _ _ rfl _ rfl _ _ _ _ ha Tryd.underlying104 rfl (by rw [wcs_size, hl2]; kernel_rfl) ?_
            | refine wpList_store_row rfl _ _ _ rfl _ _ rfl rfl _ _ hr0 (by rw [wcs_size, hl2]; kernel_rfl) (by rw [wcs_size, wcs_size, hl2]; rfl) (by simp [wcs, Value.oneCell']) ?_)
          exact bodyPost_ret (v := .agg (wcs l2)) (results_cell_row rfl _ _ w.heap.size _ _ (0, 0) _ rfl (setRow_heap _ _ _ _ _ _ hr0) Tryd.underlying104 rfl (by rw [wcs_size, hl2]; kernel_rfl)) rfl ⟨by rw [← hL2.out], below_setRow hb _ _ (Nat.le_refl _)⟩
end Go.Proofs.YtjgdmpbaikhflaaDoor
