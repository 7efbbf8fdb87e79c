/- Start, Sane and Pad of SHA-256. -/
import Derived.Test.YtngindljhlbglaaDoorShB
namespace Go.Proofs.YtngindljhlbglaaDoor
open Go.RowKit

/-- Block g holds just the cells l. -/
def Av (w : World) (g : Nat) (t : TypeId) (l : List Value) : Prop := w.heap[g]? = some (.cells l.toArray t (0, 0))
theorem Av.cell {w : World} {g : Nat} {t : TypeId} {l : List Value} (h : Av w g t l) (i : Nat) (u : Value) (hu : l[i]? = some u) : w.cell? ⟨g, i, none⟩ = some u := by
  rw [cell_of_row w g i _ t _ h]; simpa using hu
theorem Av.lt {w : World} {g : Nat} {t : TypeId} {l : List Value} (h : Av w g t l) : g < w.heap.size := (Array.getElem?_eq_some_iff.mp h).1
theorem Av.below {w w' : World} {g : Nat} {t : TypeId} {l : List Value} (h : Av w g t l) (hb : Below w.heap.size w w') : Av w' g t l := by
  unfold Av; rw [hb.block g h.lt]; exact h
theorem Av.set {w : World} {g : Nat} {t : TypeId} {l : List Value} (h : Av w g t l) (i : Nat) (u : Value) : Av (w.setCell ⟨g, i, none⟩ u) g t (l.set i u) := by
  unfold Av
  rw [heap_setCell_same w g i _ t _ h]; simp
theorem Av.same {w w' : World} {g : Nat} {t : TypeId} {l : List Value} (h : Av w g t l) (hs : w'.heap[g]? = w.heap[g]?) : Av w' g t l := by
  unfold Av; rw [hs]; exact h
theorem Av.other {w : World} {g : Nat} {t : TypeId} {l : List Value} (h : Av w g t l) (a : Addr) (v : Value) (hne : g ≠ a.block) : Av (w.setCell a v) g t l :=
  h.same (heap_setCell_other w a g v hne)
theorem Av.drew {w : World} {g : Nat} {t : TypeId} {l : List Value} (h : Av w g t l) : Av w.drew g t l := h

/-- cells are read as one value -/
theorem wpList_loadAv {P : Program} {ops : Array Oper} {rest : List Oper} {o : Oper} {a : Act} {w : World} {Q : Exit → Act → World → Prop} {g : Nat} {t : TypeId} {l : List Value} (h : Av w g t l)
    (hgd : o.guard = none) (ty : TypeId) (x : Operand) (ho : o.op = .load ty x) (hx : a.eval x = .pointer (some ⟨g, 0, none⟩)) (d : TypeDesc) (n : Nat) (hn : l.length = n)
    (hu : P.underlying ty = some d) (hd : (match d with | .struct _ | .array _ _ => true | _ => false) = true) (hi : (P.info? ty).map (·.size) = some n)
    (k : wpList P ops Q rest (a.put o.dst (.agg l.toArray)) w) : wpList P ops Q (o :: rest) a w :=
  wpList_load_row hgd ty x ho g hx t l.toArray (0, 0) d h hu hd (by rw [List.size_toArray, hn]; exact hi) k
/-- cells are written as one value into a block of the call's own -/
theorem wpList_storeAv {P : Program} {ops : Array Oper} {rest : List Oper} {o : Oper} {a : Act} {w w0 : World} {B : Nat} {Q : Exit → Act → World → Prop} {g : Nat} {t : TypeId} {old : Array Value} (hb : Below B w0 w) (h : w.heap[g]? = some (.cells old t (0, 0))) (hB : B ≤ g)
    (hgd : o.guard = none) (ty : TypeId) (x y : Operand) (ho : o.op = .store ty x y) (hx : a.eval x = .pointer (some ⟨g, 0, none⟩)) (l : List Value) (hy : a.eval y = .agg l.toArray) (n : Nat) (hn : l.length = n)
    (hi : (P.info? ty).map (·.size) = some n) (hold : old.size = n) (h1 : l.all (·.oneCell') = true)
    (k : ∀ w2, Av w2 g t l → Below B w0 w2 → (∀ k, k ≠ g → w2.heap[k]? = w.heap[k]?) → w2.heap.size = w.heap.size → wpList P ops Q rest (a.put o.dst undef) w2) : wpList P ops Q (o :: rest) a w :=
  wpList_store_row hgd ty x y ho g l.toArray hx hy t old h (by rw [List.size_toArray, hn]; exact hi) (hold.trans (by rw [List.size_toArray, hn])) (by simpa using h1)
    (k _ (setRow_heap _ _ _ _ _ _ h) (below_setRow hb _ _ hB) (fun _ hk => setRow_other _ _ _ _ hk) (by simp))

/-- the cells of a State -/
abbrev stc (h : List W32) (A : Option Addr) (n c : Nat) (N : Int) : List Value := h.map wc ++ [.slice A n c, .int .u64 N]

set_option maxHeartbeats 1000000 in
theorem Sane (h : List W32) (hh : h.length = 8) (A : Option Addr) (n c : Nat) (N : Int) (h0 : 0 ≤ N) (h1 : N < 18446744073709551616) (hn : (n : Int) < 64) (b : Bool) (hb : b = decide ((n : Int) = N % 64)) (w : World) :
    Calls Tryd.prog 39 #[.agg (stc h A n c N).toArray] w fun e w' => e = .returned (.bool b) ∧ Below w.heap.size w w' := by
  obtain ⟨v0, v1, v2, v3, v4, v5, v6, v7, rfl⟩ := len8 hh
  clear hh
  go_enter Tryd.func39, Tryd.ntmps39
  go_wp2
  go_ret
  exact ⟨by rw [hb]; rfl, (Below.refl _ _).alloc (Nat.le_refl _) _⟩

def ifill : Nat → List W32
  | 0 => List.replicate 8 0
  | k + 1 => (ifill k).set k (iAt k)
theorem ifill_length (k : Nat) : (ifill k).length = 8 := by
  induction k with
  | zero => rfl
  | succ k ih => rw [ifill, List.length_set, ih]
/-- the initial words -/
def shInit : List W32 := ifill 8
theorem stc_set (h : List W32) (A : Option Addr) (n c : Nat) (N : Int) (k : Nat) (x : W32) (hk : k < h.length) : (stc h A n c N).set k (wc x) = stc (h.set k x) A n c N := by
  simp [stc, hk, List.map_set]
set_option maxHeartbeats 1000000 in
theorem Start (w : World) (ht : Tabs w) :
    Calls Tryd.prog 37 #[] w fun e w' => e = .returned (.agg (stc shInit none 0 0 0).toArray) ∧ Below w.heap.size w w' := by
  go_enter Tryd.func37, Tryd.ntmps37
  go_wp2
  go_loopw [3] (fun i wr => ∃ k : Nat, k ≤ 8 ∧ i = .int .i64 k ∧ Below w.heap.size w wr ∧ Av wr (w.heap.size + 1) 53 (stc (ifill k) none 0 0 0) ∧ Av wr w.heap.size 53 (stc (ifill 0) none 0 0 0)) (fun i _ => 8 - (intOf i).toNat)
  case atStart =>
    refine ⟨0, by omega, rfl, ((Below.refl _ _).alloc (Nat.le_refl _) _).alloc (by simp) _, ?_, ?_⟩
    · rw [Av, ifill, stc, List.map_replicate, wc, wn_zero]; exact heap_alloc2_new _ _ _
    · rw [Av, ifill, stc, List.map_replicate, wc, wn_zero]; exact heap_alloc2_old _ _ _
  case round =>
    obtain ⟨k, hk, rfl, hb, ha, hr0⟩ := hrel
    by_cases hk8 : k < 8
    · have T := Initial k (by omega) (by omega) wr (ht.below hb)
      rw [show ((k : Int)).toNat = k by omega] at T
      have hk0 : 0 ≤ (k : Int) := by omega
      have hk1 : (k : Int) < 8 := by omega
      have hfz : wr.frozen? ⟨w.heap.size + 1, k, none⟩ = false := frozen_of_row _ _ _ _ _ ha
      have hc := ha.cell k (wc ((ifill k).getD k 0)) (by rw [stc, List.getElem?_append_left (by simp [ifill_length, hk8])]; simp [List.getElem?_eq_getElem (show k < (ifill k).length by rw [ifill_length]; exact hk8)])
      go_wp2_with fail
      refine T.mono ?_
      rintro e w' ⟨rfl, rfl⟩
      go_wp2
      refine ⟨⟨k + 1, by omega, by go_num, hb.setCell (by simp) _, ?_, hr0.other _ _ (by simp)⟩, ?_⟩
      · rw [ifill, ← stc_set _ _ _ _ _ _ _ (by rw [ifill_length]; exact hk8)]
        exact ha.set k _
      · simp [intOf]; omega
    · obtain rfl : k = 8 := by omega
      clear hk8 hk
      have hsl : (stc (ifill 8) none 0 0 0).length = 10 := by simp [stc, ifill_length]
      have hl0 : (stc (ifill 0) none 0 0 0).toArray.size = 10 := by simp [stc, ifill_length]
      obtain ⟨l, hl⟩ : ∃ l, l = stc (ifill 8) none 0 0 0 := ⟨_, rfl⟩
      have hall : l.all (·.oneCell') = true := by rw [hl]; simp [stc, Value.oneCell']
      rw [← hl] at ha hsl
      replace hl : Hid (l = stc shInit none 0 0 0) := Lib.hid hl
      replace hl0 := Lib.hid hl0
      go_wp2_with (first
        | refine wpList_loadAv ha rfl _ _ rfl rfl _ 10 hsl Tryd.underlying53 rfl (by kernel_rfl) ?_
        | (refine wpList_storeAv hb hr0 (Nat.le_refl _) rfl _ _ _ rfl rfl l rfl 10 hsl (by kernel_rfl) hl0.out hall ?_
           intro w4 a2 b4 k4 z4))
      exact bodyPost_ret (v := .agg l.toArray) (results_cell_row rfl _ _ w.heap.size _ _ (0, 0) _ rfl a2 Tryd.underlying53 rfl (by rw [List.size_toArray, hsl]; kernel_rfl)) rfl ⟨by rw [← hl.out], b4⟩
end Go.Proofs.YtngindljhlbglaaDoor
