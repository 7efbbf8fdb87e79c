/- florinref07.Get. -/
import Derived.Test.YtjgdmpbaikhflaaDoorHdG
import Derived.Test.YtjgdmpbaikhflaaDoorPr20
namespace Go.Proofs.YtjgdmpbaikhflaaDoor
open Go.RowKit
set_option maxRecDepth 10000 in
set_option maxHeartbeats 4000000 in
theorem RGet7_bad (e : Nat) (A : Option Addr) (n c : Nat) (hn : n < 80 ∧ e = 1 ∨ 80 < n ∧ e = 3) (w : World) :
    Calls Tryd.prog 20 #[.slice A n c] w fun r w' => r = .returned (.tuple #[.agg (hdc zeroHd).toArray, .int .i64 (e : Int)]) ∧ Below w.heap.size w w' := by
  have hz := zeros_68
  obtain ⟨zs, hzs⟩ : ∃ zs : List Value, zs = hdc zeroHd := ⟨_, rfl⟩
  have hzl : zs.length = 68 := by rw [hzs]; rfl
  have hone : zs.all (·.oneCell') = true := by rw [hzs]; exact List.all_eq_true.2 (hdc_one _)
  rw [show hdc ⟨0, List.replicate 32 0, List.replicate 32 0, 0, 0, 0⟩ = zs from hzs.symm] at hz
  rw [← hzs]
  clear hzs
  obtain ⟨W, hW⟩ : ∃ W, W = w.alloc (.cells zs.toArray 26) := ⟨_, rfl⟩
  obtain ⟨H, hH⟩ : ∃ H, H = w.heap.size := ⟨_, rfl⟩
  have bW : Below w.heap.size w W := by rw [hW]; exact (Below.refl _ _).alloc (Nat.le_refl _) _
  have rW : Av W H 26 zs := by rw [hW, hH]; exact heap_alloc_new _ _
  have hHw : w.heap.size ≤ H := by rw [hH]; exact Nat.le_refl _
  replace hW := Lib.hid hW
  replace hH := Lib.hid hH
  replace hzl := Lib.hid hzl
  replace hone := Lib.hid hone
  rcases hn with ⟨h1, rfl⟩ | ⟨h1, rfl⟩
  · have t1 : decide ((n : Int) < 80) = true := by simp; omega
    go_enter Tryd.func20, Tryd.ntmps20
    go_upto_region 1 with fail
    rw [← hW.out, ← hH.out]
    go_wp2_with (first
      | ((with_reducible refine wpList_build (.agg zs.toArray) ?_ ?_); (go_simp; first | done | rfl))
      | ((with_reducible refine wpList_storeFA 26 bW rW hHw zs ?_ ?_ 68 hzl.out ?_ ?_ ?_ ?_); rfl; rfl; kernel_rfl; exact hzl.out; exact hone.out; intro w4 a4 b4 k4 z4))
    refine bodyPost_ret (v := .tuple #[.agg zs.toArray, .int .i64 1]) ((results_cellU (C := zs) (by rfl) (by rfl) a4 _ Tryd.underlying26 rfl 68 hzl.out (by kernel_rfl)).trans (by rfl)) (by rfl) ?_
    exact ⟨rfl, b4⟩
  · have t1 : decide ((n : Int) < 80) = false := by simp; omega
    have t2 : decide ((80 : Int) < (n : Int)) = true := by simp; omega
    go_enter Tryd.func20, Tryd.ntmps20
    go_upto_region 1 with fail
    rw [← hW.out, ← hH.out]
    go_wp2_with (first
      | ((with_reducible refine wpList_build (.agg zs.toArray) ?_ ?_); (go_simp; first | done | rfl))
      | ((with_reducible refine wpList_storeFA 26 bW rW hHw zs ?_ ?_ 68 hzl.out ?_ ?_ ?_ ?_); rfl; rfl; kernel_rfl; exact hzl.out; exact hone.out; intro w4 a4 b4 k4 z4))
    refine bodyPost_ret (v := .tuple #[.agg zs.toArray, .int .i64 3]) ((results_cellU (C := zs) (by rfl) (by rfl) a4 _ Tryd.underlying26 rfl 68 hzl.out (by kernel_rfl)).trans (by rfl)) (by rfl) ?_
    exact ⟨rfl, b4⟩
theorem hd_places : (match Tryd.prog.underlying 26 with | some (.struct fs) => fs.toList.mapM (fun f => (Tryd.prog.info? f.type).map fun i => (f.offset, i.size)) | _ => none) = some [(0, 1), (1, 32), (33, 32), (65, 1), (66, 1), (67, 1)] := by kernel_rfl
theorem hd_zero : (Tryd.prog.info? 26).map (·.zero) = some (some (.agg (hdc zeroHd).toArray)) := by kernel_rfl
set_option maxRecDepth 10000 in
/-- a header is built of its numbers -/
theorem hd_built (n0 n3 n4 n5 : Nat) : Tryd.prog.built 26 [(0, .int .u32 (n0 : Int)), (3, .int .u32 (n3 : Int)), (4, .int .u32 (n4 : Int)), (5, .int .u32 (n5 : Int))] = some (hdc ⟨n0, List.replicate 32 0, List.replicate 32 0, n3, n4, n5⟩).toArray := by
  have hp := hd_places
  rw [Tryd.underlying26] at hp
  rw [built_struct Tryd.underlying26 hd_zero hp]
  have z32 : ((List.replicate 32 (0 : UInt8)).map bv).length = 32 := rfl
  show Instr.fill _ (([] ++ ([Value.int .u32 0] ++ ((List.replicate 32 (0 : UInt8)).map bv ++ ((List.replicate 32 (0 : UInt8)).map bv ++ [Value.int .u32 0, Value.int .u32 0, Value.int .u32 0])))) : List Value).toArray _ = some ([Value.int .u32 (n0 : Int)] ++ ((List.replicate 32 (0 : UInt8)).map bv ++ ((List.replicate 32 (0 : UInt8)).map bv ++ [Value.int .u32 (n3 : Int), Value.int .u32 (n4 : Int), Value.int .u32 (n5 : Int)]))).toArray
  generalize (List.replicate 32 (0 : UInt8)).map bv = Z at *
  refine Eq.trans (fill_step [] [Value.int .u32 0] [Value.int .u32 (n0 : Int)] _ (off := 0) (size := 1) rfl rfl rfl rfl rfl) ?_
  rw [show ([] ++ ([Value.int .u32 (n0 : Int)] ++ (Z ++ (Z ++ [Value.int .u32 0, Value.int .u32 0, Value.int .u32 0]))) : List Value) = ([Value.int .u32 (n0 : Int)] ++ (Z ++ Z)) ++ ([Value.int .u32 0] ++ [Value.int .u32 0, Value.int .u32 0]) by simp]
  refine Eq.trans (fill_step _ [Value.int .u32 0] [Value.int .u32 (n3 : Int)] _ (off := 65) (size := 1) rfl rfl rfl (by simp [z32]) rfl) ?_
  rw [show (([Value.int .u32 (n0 : Int)] ++ (Z ++ Z)) ++ ([Value.int .u32 (n3 : Int)] ++ [Value.int .u32 0, Value.int .u32 0]) : List Value) = ([Value.int .u32 (n0 : Int)] ++ (Z ++ (Z ++ [Value.int .u32 (n3 : Int)]))) ++ ([Value.int .u32 0] ++ [Value.int .u32 0]) by simp]
  refine Eq.trans (fill_step _ [Value.int .u32 0] [Value.int .u32 (n4 : Int)] _ (off := 66) (size := 1) rfl rfl rfl (by simp [z32]) rfl) ?_
  rw [show (([Value.int .u32 (n0 : Int)] ++ (Z ++ (Z ++ [Value.int .u32 (n3 : Int)]))) ++ ([Value.int .u32 (n4 : Int)] ++ [Value.int .u32 0]) : List Value) = ([Value.int .u32 (n0 : Int)] ++ (Z ++ (Z ++ [Value.int .u32 (n3 : Int), Value.int .u32 (n4 : Int)]))) ++ ([Value.int .u32 0] ++ []) by simp]
  refine Eq.trans (fill_step _ [Value.int .u32 0] [Value.int .u32 (n5 : Int)] _ (off := 67) (size := 1) rfl rfl rfl (by simp [z32]) rfl) ?_
  simp [Instr.fill]
/-- a header whose hashes are filled as far as j -/
def gPart (x : Hd) (j : Nat) : Hd := { x with prev := x.prev.take j ++ List.replicate (32 - j) 0, root := x.root.take j ++ List.replicate (32 - j) 0 }
theorem gPart_ok {x : Hd} (k : x.ok) {j : Nat} (hj : j ≤ 32) : (gPart x j).ok := by
  obtain ⟨h0, h1, h2, h3⟩ := k
  exact ⟨h0, by simp [gPart, h1]; omega, by simp [gPart, h2]; omega, h3⟩
theorem gPart_zero (x : Hd) : gPart x 0 = ⟨x.ver, List.replicate 32 0, List.replicate 32 0, x.time, x.bits, x.nonce⟩ := by simp [gPart]
theorem gPart_end {x : Hd} (k : x.ok) : gPart x 32 = x := by
  obtain ⟨h0, h1, h2, h3⟩ := k
  unfold gPart
  rw [List.take_of_length_le (by omega), List.take_of_length_le (by omega)]
  simp
theorem fill_one (l : List UInt8) (j : Nat) (u : UInt8) (hl : l.length = 32) (hj : j < 32) (hu : l[j]? = some u) : (l.take j ++ List.replicate (32 - j) 0).set j u = l.take (j + 1) ++ List.replicate (32 - (j + 1)) 0 := by
  rw [List.set_append_right _ _ (by simp; omega), show j - (l.take j).length = 0 by simp; omega]
  rw [show 32 - j = (32 - (j + 1)) + 1 by omega, List.replicate_succ, List.set_cons_zero, List.take_add_one, hu]
  simp
theorem hdc_put1 {h : Hd} (k : h.ok) {j : Nat} (hj : j < 32) (u : UInt8) : (hdc h).set (1 + j) (bv u) = hdc { h with prev := h.prev.set j u } := by
  obtain ⟨_, h1, h2, _⟩ := k
  unfold hdc
  rw [List.set_append_right _ _ (by simp), List.set_append_left _ _ (by simp [h1]; omega)]
  simp [List.map_set]
theorem hdc_put2 {h : Hd} (k : h.ok) {j : Nat} (hj : j < 32) (u : UInt8) : (hdc h).set (33 + j) (bv u) = hdc { h with root := h.root.set j u } := by
  obtain ⟨_, h1, h2, _⟩ := k
  unfold hdc
  rw [List.set_append_right _ _ (by simp <;> omega), List.set_append_right _ _ (by simp [h1] <;> omega), List.set_append_left _ _ (by simp [h1, h2] <;> omega)]
  simp [h1, List.map_set]
theorem gPart_step {x : Hd} (k : x.ok) {j : Nat} (hj : j < 32) {u v : UInt8} (hu : x.prev[j]? = some u) (hv : x.root[j]? = some v) :
    ((hdc (gPart x j)).set (1 + j) (bv u)).set (33 + j) (bv v) = hdc (gPart x (j + 1)) := by
  have g := gPart_ok k (Nat.le_of_lt hj)
  rw [hdc_put1 g hj]
  have g2 : ({ gPart x j with prev := (gPart x j).prev.set j u } : Hd).ok := by
    obtain ⟨h0, h1, h2, h3⟩ := g
    exact ⟨h0, by simpa using h1, h2, h3⟩
  rw [hdc_put2 g2 hj]
  congr 1
  unfold gPart
  simp only
  rw [fill_one _ _ _ k.2.1 hj hu, fill_one _ _ _ k.2.2.1 hj hv]
set_option maxRecDepth 10000 in
set_option maxHeartbeats 4000000 in
theorem RGet7_ok (b : List UInt8) (A : Option Addr) (c : Nat) (hn : b.length = 80) (_ : 80 ≤ c) (w : World) (hr : Rd w A (b.map bv)) :
    Calls Tryd.prog 20 #[.slice A 80 c] w fun r w' => r = .returned (.tuple #[.agg (hdc (hdOf b)).toArray, .int .i64 0]) ∧ Below w.heap.size w w' := by
  obtain ⟨bb, off, rfl⟩ := hr.someA (by intro h; rw [List.map_eq_nil_iff] at h; rw [h] at hn; simp at hn)
  have hz := zeros_68
  obtain ⟨zs, hzs⟩ : ∃ zs : List Value, zs = hdc zeroHd := ⟨_, rfl⟩
  have hzl : zs.length = 68 := by rw [hzs]; rfl
  rw [show hdc ⟨0, List.replicate 32 0, List.replicate 32 0, 0, 0, 0⟩ = zs from hzs.symm] at hz
  clear hzs
  obtain ⟨W, hW⟩ : ∃ W, W = w.alloc (.cells zs.toArray 26) := ⟨_, rfl⟩
  obtain ⟨H, hH⟩ : ∃ H, H = w.heap.size := ⟨_, rfl⟩
  have bW : Below w.heap.size w W := by rw [hW]; exact (Below.refl _ _).alloc (Nat.le_refl _) _
  have rW : Av W H 26 zs := by rw [hW, hH]; exact heap_alloc_new _ _
  have hHw : w.heap.size ≤ H := by rw [hH]; exact Nat.le_refl _
  have hHW : H < W.heap.size := rW.lt
  have t1 : decide ((80 : Int) < 80) = false := by decide
  have hrW := hr.below bW
  obtain ⟨x, hx⟩ : ∃ x, x = hdOf b := ⟨_, rfl⟩
  have xok : x.ok := by rw [hx]; exact hdOf_ok hn
  have x68 := hdc_length xok
  have e1 : x.prev = (b.drop 4).take 32 := by rw [hx]; rfl
  have e2 : x.root = (b.drop 36).take 32 := by rw [hx]; rfl
  obtain ⟨n0, hn0⟩ : ∃ n0, n0 = Cm.le ((b.drop 0).take 4) := ⟨_, rfl⟩
  obtain ⟨n3, hn3⟩ : ∃ n3, n3 = Cm.le ((b.drop 68).take 4) := ⟨_, rfl⟩
  obtain ⟨n4, hn4⟩ : ∃ n4, n4 = Cm.le ((b.drop 72).take 4) := ⟨_, rfl⟩
  obtain ⟨n5, hn5⟩ : ∃ n5, n5 = Cm.le ((b.drop 76).take 4) := ⟨_, rfl⟩
  have hbt := hd_built n0 n3 n4 n5
  have x0 : (⟨n0, List.replicate 32 0, List.replicate 32 0, n3, n4, n5⟩ : Hd) = gPart x 0 := by rw [gPart_zero, hn0, hn3, hn4, hn5, hx]; rfl
  rw [x0] at hbt
  rw [← hx]
  have N0 : Hid (∀ w' : World, Rd w' (some ⟨bb, off, none⟩) (b.map bv) → Calls Tryd.prog 35 #[.slice (some ⟨bb, off, none⟩) 80 c, .int .i64 0] w' fun e w'' => e = .returned (.int .u32 (n0 : Int)) ∧ Below w'.heap.size w' w'') := Lib.hid (by
    intro w' r
    have := RNum7 b 80 0 hn (by omega) (by omega) (some ⟨bb, off, none⟩) c w' r
    rw [hn0]
    exact this)
  have N1 : Hid (∀ w' : World, Rd w' (some ⟨bb, off, none⟩) (b.map bv) → Calls Tryd.prog 35 #[.slice (some ⟨bb, off, none⟩) 80 c, .int .i64 68] w' fun e w'' => e = .returned (.int .u32 (n3 : Int)) ∧ Below w'.heap.size w' w'') := Lib.hid (by
    intro w' r
    have := RNum7 b 80 68 hn (by omega) (by omega) (some ⟨bb, off, none⟩) c w' r
    rw [hn3]
    exact this)
  have N2 : Hid (∀ w' : World, Rd w' (some ⟨bb, off, none⟩) (b.map bv) → Calls Tryd.prog 35 #[.slice (some ⟨bb, off, none⟩) 80 c, .int .i64 72] w' fun e w'' => e = .returned (.int .u32 (n4 : Int)) ∧ Below w'.heap.size w' w'') := Lib.hid (by
    intro w' r
    have := RNum7 b 80 72 hn (by omega) (by omega) (some ⟨bb, off, none⟩) c w' r
    rw [hn4]
    exact this)
  have N3 : Hid (∀ w' : World, Rd w' (some ⟨bb, off, none⟩) (b.map bv) → Calls Tryd.prog 35 #[.slice (some ⟨bb, off, none⟩) 80 c, .int .i64 76] w' fun e w'' => e = .returned (.int .u32 (n5 : Int)) ∧ Below w'.heap.size w' w'') := Lib.hid (by
    intro w' r
    have := RNum7 b 80 76 hn (by omega) (by omega) (some ⟨bb, off, none⟩) c w' r
    rw [hn5]
    exact this)
  have g68 : Hid (∀ j, j ≤ 32 → (hdc (gPart x j)).length = 68) := Lib.hid (fun j hj => hdc_length (gPart_ok xok hj))
  have gl0 := Lib.hid (g68.out 0 (by omega))
  have one0 := Lib.hid (List.all_eq_true.2 (hdc_one (gPart x 0)))
  replace hbt := Lib.hid hbt
  replace x0 := Lib.hid x0
  replace hn0 := Lib.hid hn0
  replace hn3 := Lib.hid hn3
  replace hn4 := Lib.hid hn4
  replace hn5 := Lib.hid hn5
  replace hW := Lib.hid hW
  replace hH := Lib.hid hH
  replace hx := Lib.hid hx
  replace hzl := Lib.hid hzl
  replace e1 := Lib.hid e1
  replace e2 := Lib.hid e2
  replace hHW := Lib.hid hHW
  replace hn := Lib.hid hn
  go_enter Tryd.func20, Tryd.ntmps20
  go_upto_region 1 with fail
  rw [← hW.out, ← hH.out]
  go_upto_region 6 with (first
    | (go_at_call 35; with_reducible refine (N0.out W hrW).mono ?_; rintro e w1 ⟨rfl, c1⟩; have r1 := hrW.below c1; have b1 := bW.trans (c1.mono bW.size))
    | (go_at_call 35; with_reducible refine (N1.out w1 r1).mono ?_; rintro e w2 ⟨rfl, c2⟩; have r2 := r1.below c2; have b2 := b1.trans (c2.mono b1.size))
    | (go_at_call 35; with_reducible refine (N2.out w2 r2).mono ?_; rintro e w3 ⟨rfl, c3⟩; have r3 := r2.below c3; have b3 := b2.trans (c3.mono b2.size))
    | (go_at_call 35; with_reducible refine (N3.out w3 r3).mono ?_; rintro e w4 ⟨rfl, c4⟩; have r4 := r3.below c4; have b4 := b3.trans (c4.mono b3.size))
    | ((with_reducible refine wpList_build (.agg (hdc (gPart x 0)).toArray) ?_ ?_); exact exec_build (cs := hdc (gPart x 0)) (ops := [(0, .tmp 15), (3, .tmp 17), (4, .tmp 19), (5, .tmp 21)]) rfl hbt.out)
    | ((with_reducible refine wpList_storeF 26 ((Below.refl w4.heap.size w4).alloc (Nat.le_refl _) _) (heap_alloc_new _ _) (Nat.le_refl _) (hdc (gPart x 0)) ?_ ?_ 68 gl0.out ?_ ?_ ?_ ?_); rfl; rfl; kernel_rfl; (rw [List.size_toArray]; exact hzl.out); exact one0.out; intro w5 a5 b5 k5 z5))
  obtain ⟨G, hG⟩ : ∃ G, G = w4.heap.size := ⟨_, rfl⟩
  rw [← hG] at a5 ⊢
  have bw5 := b4.trans (b5.mono b4.size)
  have rH := (((((rW.below c1).below c2).below c3).below c4).below b5)
  have hHG : H < G := by rw [hG]; exact ((((rW.below c1).below c2).below c3).below c4).lt
  have hGw : w.heap.size ≤ G := by omega
  replace hG := Lib.hid hG
  clear r1 r2 r3 r4 hrW c1 c2 c3 c4 b1 b2 b3 k5 z5 b5
  go_wp2
  go_loopw [5] (fun i wr => ∃ j : Nat, j ≤ 32 ∧ i = .int .i64 (j : Int) ∧ Below w.heap.size w wr ∧ Av wr H 26 zs ∧ Av wr G 26 (hdc (gPart x j))) (fun i _ => 32 - (intOf i).toNat)
  case atStart => exact ⟨0, by omega, rfl, bw5, rH, a5⟩
  case round =>
    clear bw5 rH a5 rW
    obtain ⟨j, hj, rfl, bw, rH, aG⟩ := hrel
    by_cases hlt : j < 32
    · have t2 : decide ((j : Int) < 32) = true := by simp; omega
      obtain ⟨p, hp⟩ : ∃ p, p = 4 + j := ⟨_, rfl⟩
      obtain ⟨q, hq⟩ : ∃ q, q = 36 + j := ⟨_, rfl⟩
      obtain ⟨u, hu⟩ : ∃ u, b[p]? = some u := ⟨_, List.getElem?_eq_getElem (by rw [hn.out]; omega)⟩
      obtain ⟨v, hv⟩ : ∃ v, b[q]? = some v := ⟨_, List.getElem?_eq_getElem (by rw [hn.out]; omega)⟩
      have hu2 : x.prev[j]? = some u := by rw [e1.out, List.getElem?_take_of_lt hlt, List.getElem?_drop, ← hp, hu]
      have hv2 : x.root[j]? = some v := by rw [e2.out, List.getElem?_take_of_lt hlt, List.getElem?_drop, ← hq, hv]
      have stp := gPart_step xok hlt hu2 hv2
      have rr := hr.below bw
      have c1 : wr.cell? ⟨bb, off + p, none⟩ = some (.int .u8 (u.toNat : Int)) := rd_byte rr hu
      have ep : IntKind.i64.wrap (4 + (j : Int)) = (p : Int) := by rw [IntKind.wrap_i64]; omega
      have eq : IntKind.i64.wrap (36 + (j : Int)) = (q : Int) := by rw [IntKind.wrap_i64]; omega
      have p0 : (0 : Int) ≤ (p : Int) := by omega
      have p1 : (p : Int) < 80 := by omega
      have q0 : (0 : Int) ≤ (q : Int) := by omega
      have q1 : (q : Int) < 80 := by omega
      have j0 : (0 : Int) ≤ (j : Int) := by omega
      have j1 : (j : Int) < 32 := by omega
      have l1 : 1 + j < (hdc (gPart x j)).length := by rw [g68.out j hj]; omega
      have l2 : 33 + j < ((hdc (gPart x j)).set (1 + j) (bv u)).length := by rw [List.length_set, g68.out j hj]; omega
      obtain ⟨U, hU⟩ : ∃ U : Int, U = (u.toNat : Int) := ⟨_, rfl⟩
      obtain ⟨V, hV⟩ : ∃ V : Int, V = (v.toNat : Int) := ⟨_, rfl⟩
      have bU : bv u = .int .u8 U := by rw [hU, bv]
      have bV : bv v = .int .u8 V := by rw [hV, bv]
      rw [bU, bV] at stp
      rw [bU] at l2
      rw [← hU] at c1
      replace hU := Lib.hid hU
      replace hV := Lib.hid hV
      replace bU := Lib.hid bU
      replace bV := Lib.hid bV
      replace hp := Lib.hid hp
      replace hq := Lib.hid hq
      replace hu := Lib.hid hu
      replace hv := Lib.hid hv
      replace hu2 := Lib.hid hu2
      replace hv2 := Lib.hid hv2
      replace stp := Lib.hid stp
      replace l1 := Lib.hid l1
      replace l2 := Lib.hid l2
      go_upto_region 10 with ((with_reducible refine wpList_storeI 5 aG l1.out .u8 U ?_ ?_ size_u8' ?_); rfl; rfl; intro w6 a6 f6)
      have bw6 := bw.trans (f6.below (B := w.heap.size) (fun k hk => by omega) bw.size)
      have c2 : w6.cell? ⟨bb, off + q, none⟩ = some (.int .u8 V) := by rw [hV.out]; exact rd_byte (hr.below bw6) hv.out
      go_upto_region 8 with ((with_reducible refine wpList_storeI 5 a6 l2.out .u8 V ?_ ?_ size_u8' ?_); rfl; rfl; intro w7 a7 f7)
      rw [stp.out] at a7
      have bw7 := bw6.trans (f7.below (B := w.heap.size) (fun k hk => by omega) bw6.size)
      have rH7 := f7.av (f6.av rH (by omega)) (by omega)
      go_wp2
      refine ⟨⟨j + 1, by omega, by go_num, bw7, rH7, a7⟩, ?_⟩
      simp [intOf]
      omega
    · obtain rfl : j = 32 := by omega
      rw [gPart_end xok] at aG
      have onex := Lib.hid (List.all_eq_true.2 (hdc_one x))
      replace x68 := Lib.hid x68
      go_wp2_with (first
        | ((with_reducible refine wpList_loadF 26 aG ?_ _ 68 x68.out Tryd.underlying26 ?_ ?_ ?_); rfl; rfl; kernel_rfl)
        | ((with_reducible refine wpList_storeFA 26 bw rH hHw (hdc x) ?_ ?_ 68 x68.out ?_ ?_ ?_ ?_); rfl; rfl; kernel_rfl; exact hzl.out; exact onex.out; intro w7 a7 b7 k7 z7))
      refine bodyPost_ret (v := .tuple #[.agg (hdc x).toArray, .int .i64 0]) ((results_cellU (C := hdc x) (by rfl) (by rfl) a7 _ Tryd.underlying26 rfl 68 x68.out (by kernel_rfl)).trans (by rfl)) (by rfl) ?_
      exact ⟨rfl, b7⟩
/-- what florinref07.Get answers -/
theorem RGet7 (b : List UInt8) (A : Option Addr) (n c : Nat) (hn : b.length = n) (hc : n ≤ c) (w : World) (hr : Rd w A (b.map bv)) :
    Calls Tryd.prog 20 #[.slice A n c] w fun r w' => r = .returned (.tuple #[.agg (hdc (hdGet b).1).toArray, .int .i64 ((hdGet b).2 : Int)]) ∧ Below w.heap.size w w' := by
  unfold hdGet
  by_cases h1 : b.length < 80
  · rw [if_pos h1]
    exact RGet7_bad 1 A n c (.inl ⟨by omega, rfl⟩) w
  · rw [if_neg h1]
    by_cases h2 : 80 < b.length
    · rw [if_pos h2]
      exact RGet7_bad 3 A n c (.inr ⟨by omega, rfl⟩) w
    · rw [if_neg h2]
      obtain rfl : n = 80 := by omega
      exact RGet7_ok b A c hn hc w hr
end Go.Proofs.YtjgdmpbaikhflaaDoor
