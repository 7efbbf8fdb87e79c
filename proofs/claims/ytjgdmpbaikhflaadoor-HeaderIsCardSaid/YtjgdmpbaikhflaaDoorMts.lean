/- hash.Number, target.Meets. -/
import Derived.Test.YtjgdmpbaikhflaaDoorEx
import Derived.Test.YtjgdmpbaikhflaaDoorPr5
import Derived.Test.YtjgdmpbaikhflaaDoorPr11
namespace Go.Proofs.YtjgdmpbaikhflaaDoor
open Go.RowKit
/-- the part j of the number of the bytes read so far: the first k of 32 -/
def pLim (x : List UInt8) (k j : Nat) : Nat := Cm.le (((x.take k).drop (8 * j)).take 8)
theorem pLim_0 (x : List UInt8) (j : Nat) : pLim x 0 j = 0 := by simp [pLim, Cm.le]
theorem pLim_lt (x : List UInt8) (k j : Nat) : pLim x k j < 18446744073709551616 := by
  have h := Cm.le_lt (((x.take k).drop (8 * j)).take 8)
  refine Nat.lt_of_lt_of_le h ?_
  have : 256 ^ (((x.take k).drop (8 * j)).take 8).length ≤ 256 ^ 8 := Nat.pow_le_pow_right (by omega) (by simp; omega)
  exact this
theorem pLim_step (x : List UInt8) (k : Nat) (h : k < x.length) : pLim x (k + 1) (k / 8) = pLim x k (k / 8) + 2 ^ (8 * (k % 8)) * x[k].toNat ∧ pLim x k (k / 8) < 2 ^ (8 * (k % 8)) ∧ ∀ j, j ≠ k / 8 → pLim x (k + 1) j = pLim x k j := by
  have hs : x.take (k + 1) = x.take k ++ [x[k]] := List.take_succ_eq_append_getElem h
  have hl : (x.take k).length = k := by rw [List.length_take]; omega
  unfold pLim
  rw [hs]
  generalize x.take k = T at *
  generalize x[k] = b at *
  clear hs h
  refine ⟨?_, ?_, ?_⟩
  · rw [List.drop_append_of_le_length (by omega)]
    have hq : (T.drop (8 * (k / 8))).length = k % 8 := by rw [List.length_drop]; omega
    generalize T.drop (8 * (k / 8)) = R at *
    rw [List.take_of_length_le (l := R ++ [b]) (by simp; omega), List.take_of_length_le (l := R) (by omega), Cm.le_append, hq, pow_256]
    simp [Cm.le]
  · have h := Cm.le_lt ((T.drop (8 * (k / 8))).take 8)
    rw [pow_256] at h
    refine Nat.lt_of_lt_of_le h (Nat.pow_le_pow_right (by omega) ?_)
    simp
    omega
  · intro j hj
    rcases Nat.lt_or_gt_of_ne hj with h' | h'
    · rw [List.drop_append_of_le_length (by omega), List.take_append_of_le_length (by rw [List.length_drop]; omega)]
    · rw [List.drop_of_length_le (by simp; omega), List.drop_of_length_le (by omega)]
theorem pLim_end (x : List UInt8) (h : x.length = 32) : pLim x 32 0 + 18446744073709551616 * pLim x 32 1 + 340282366920938463463374607431768211456 * pLim x 32 2 + 6277101735386680763835789423207666416102355444464034512896 * pLim x 32 3 = Cm.le x := by
  have e : ∃ a b c d : List UInt8, x = a ++ (b ++ (c ++ d)) ∧ a.length = 8 ∧ b.length = 8 ∧ c.length = 8 ∧ d.length = 8 := by
    refine ⟨x.take 8, (x.drop 8).take 8, (x.drop 16).take 8, x.drop 24, ?_, by simp; omega, by simp; omega, by simp; omega, by simp; omega⟩
    have e1 : x.drop 16 = (x.drop 16).take 8 ++ x.drop 24 := by
      conv => lhs; rw [← List.take_append_drop 8 (x.drop 16), List.drop_drop]
    have e2 : x.drop 8 = (x.drop 8).take 8 ++ x.drop 16 := by
      conv => lhs; rw [← List.take_append_drop 8 (x.drop 8), List.drop_drop]
    rw [← e1, ← e2, List.take_append_drop]
  obtain ⟨a, b, c, d, rfl, ha, hb, hc, hd⟩ := e
  have f : ∀ (l r : List UInt8), l.length = 8 → (l ++ r).take 8 = l := fun l r h => by rw [List.take_append_of_le_length (by omega), List.take_of_length_le (by omega)]
  have g : ∀ (l r : List UInt8) (n : Nat), l.length = 8 → (l ++ r).drop (8 + n) = r.drop n := fun l r n h => by rw [← List.drop_drop, List.drop_left' h]
  unfold pLim
  rw [List.take_of_length_le (i := 32) (by rw [h]; exact Nat.le_refl _)]
  rw [Nat.mul_zero, List.drop_zero, f _ _ ha, show 8 * 1 = 8 + 0 from rfl, g _ _ _ ha, List.drop_zero, f _ _ hb, show 8 * 2 = 8 + (8 + 0) from rfl, g _ _ _ ha, g _ _ _ hb, List.drop_zero, f _ _ hc, show 8 * 3 = 8 + (8 + (8 + 0)) from rfl, g _ _ _ ha, g _ _ _ hb, g _ _ _ hc, List.drop_zero, List.take_of_length_le (l := d) (by omega)]
  rw [Cm.le_append, Cm.le_append, Cm.le_append, ha, hb, hc, show (256 : Nat) ^ 8 = 18446744073709551616 from rfl]
  omega
theorem uc_le (x : List UInt8) (h : x.length = 32) : uc (Cm.le x) = uq4 (pLim x 32 0) (pLim x 32 1) (pLim x 32 2) (pLim x 32 3) := by
  obtain ⟨n, _, hn, h0, h1, h2, h3⟩ := lim_of _ _ _ _ (pLim_lt x 32 0) (pLim_lt x 32 1) (pLim_lt x 32 2) (pLim_lt x 32 3)
  rw [pLim_end x h] at hn
  rw [← hn, uc, h0, h1, h2, h3]
theorem le_32 (x : List UInt8) (h : x.length = 32) : Cm.le x < 115792089237316195423570985008687907853269984665640564039457584007913129639936 := by
  have := Cm.le_lt x
  rw [h] at this
  exact this
theorem index_byte {w : World} (l : List UInt8) (hl : l.length = 32) (k : Nat) (hk : k < 32) :
    (Instr.index 24 (.agg (l.map bv).toArray) (.int .i64 (k : Int))).run Tryd.prog w = .ok (bv (l.getD k 0)) w := by
  have h := Tryd.underlying24
  have hg : (l.map bv).toArray[k]? = some (bv (l.getD k 0)) := by
    rw [List.getElem?_toArray, List.getElem?_map, List.getD_eq_getElem?_getD, List.getElem?_eq_getElem (by omega)]
    rfl
  have hn : (0 : Int) ≤ (k : Int) ∧ (k : Int) < (32 : Int) := by omega
  simp [Instr.index, run_underlying h, asIntOf, hn, part, isAgg, go_sem]
  rw [if_pos hk, List.getElem?_eq_getElem (by omega)]
  rfl
theorem or_shl_u64m (a b k : Nat) (ha : a < 2 ^ (8 * k)) (hb : b < 256) (hk : 8 * k + 8 ≤ 64) :
    bits .or .u64 (a : Int) ((b : Int) % 18446744073709551616 * 2 ^ (8 * k) % 18446744073709551616) = ((a + 2 ^ (8 * k) * b : Nat) : Int) := by
  have h := or_shl_u64 a b k ha hb hk
  rw [IntKind.wrap_u64, IntKind.wrap_u64] at h
  exact h
set_option maxRecDepth 10000 in
set_option maxHeartbeats 4000000 in
theorem HNum (x : List UInt8) (hx : x.length = 32) (w : World) :
    Calls Tryd.prog 29 #[.agg (hcs x)] w fun e w' => e = .returned (.agg (uc (Cm.le x)).toArray) ∧ Below w.heap.size w w' := by
  rw [uc_le x hx]
  have hx32 : (x.map bv).length = 32 := by rw [List.length_map, hx]
  replace hx := Lib.hid hx
  replace hx32 := Lib.hid hx32
  go_enter Tryd.func29, Tryd.ntmps29
  have b0 : Below w.heap.size w (((w.alloc (.cells (x.map bv).toArray 24)).alloc (.cells #[.int .u64 0, .int .u64 0, .int .u64 0, .int .u64 0] 54)).alloc (.cells #[.int .u64 0, .int .u64 0, .int .u64 0, .int .u64 0] 54)) := (((Below.refl _ _).alloc (Nat.le_refl _) _).alloc (by simp) _).alloc (by simp; omega) _
  have a0 : Av (((w.alloc (.cells (x.map bv).toArray 24)).alloc (.cells #[.int .u64 0, .int .u64 0, .int .u64 0, .int .u64 0] 54)).alloc (.cells #[.int .u64 0, .int .u64 0, .int .u64 0, .int .u64 0] 54)) w.heap.size 24 (x.map bv) := Av.alloc (heap_alloc2_old _ _ _) _
  have a1 : Av (((w.alloc (.cells (x.map bv).toArray 24)).alloc (.cells #[.int .u64 0, .int .u64 0, .int .u64 0, .int .u64 0] 54)).alloc (.cells #[.int .u64 0, .int .u64 0, .int .u64 0, .int .u64 0] 54)) (w.heap.size + 1) 54 [.int .u64 0, .int .u64 0, .int .u64 0, .int .u64 0] := Av.alloc (heap_alloc2_new _ _ _) _
  have a2 : Av (((w.alloc (.cells (x.map bv).toArray 24)).alloc (.cells #[.int .u64 0, .int .u64 0, .int .u64 0, .int .u64 0] 54)).alloc (.cells #[.int .u64 0, .int .u64 0, .int .u64 0, .int .u64 0] 54)) (w.heap.size + 1 + 1) 54 (uq4 (pLim x 0 0) (pLim x 0 1) (pLim x 0 2) (pLim x 0 3)) := by
    have e : ∀ (v : World) (o : Obj), (v.alloc o).heap.size = v.heap.size + 1 := fun v o => by simp
    have := heap_alloc_new ((w.alloc (.cells (x.map bv).toArray 24)).alloc (.cells #[.int .u64 0, .int .u64 0, .int .u64 0, .int .u64 0] 54)) (.cells #[.int .u64 0, .int .u64 0, .int .u64 0, .int .u64 0] 54)
    rw [e, e] at this
    rw [pLim_0, pLim_0, pLim_0, pLim_0]
    exact this
  go_upto_region 2 with fail
  generalize ((w.alloc (.cells (x.map bv).toArray 24)).alloc (.cells #[.int .u64 0, .int .u64 0, .int .u64 0, .int .u64 0] 54)).alloc (.cells #[.int .u64 0, .int .u64 0, .int .u64 0, .int .u64 0] 54) = W at *
  go_wp2_with ((with_reducible refine wpList_loadF 24 a0 ?_ _ 32 hx32.out Tryd.underlying24 ?_ ?_ ?_); rfl; rfl; kernel_rfl)
  go_loopw [7] (fun i wr => ∃ k : Nat, k ≤ 32 ∧ i = .int .i64 (k : Int) ∧ Below w.heap.size w wr ∧ Av wr (w.heap.size + 1) 54 [.int .u64 0, .int .u64 0, .int .u64 0, .int .u64 0] ∧ Av wr (w.heap.size + 1 + 1) 54 (uq4 (pLim x k 0) (pLim x k 1) (pLim x k 2) (pLim x k 3))) (fun i _ => 32 - (intOf i).toNat)
  case atStart => exact ⟨0, by omega, rfl, b0, a1, a2⟩
  case round =>
    clear a0 a1 a2 b0
    obtain ⟨k, hk, rfl, bw, a1, a2⟩ := hrel
    by_cases hlt : k < 32
    · have t1 : decide ((k : Int) < 32) = true := by simp; omega
      have hkx : k < x.length := by rw [hx.out]; exact hlt
      obtain ⟨s1, s2, s3⟩ := pLim_step x k hkx
      have hby := Lib.hid (Cm.u8_lt x[k])
      have hidx : (x.map bv)[k]? = some (bv x[k]) := by rw [List.getElem?_map, List.getElem?_eq_getElem hkx]; rfl
      replace s3 := Lib.hid s3
      replace s2 := Lib.hid s2
      replace s1 := Lib.hid s1
      have k8 : k / 8 = 0 ∨ k / 8 = 1 ∨ k / 8 = 2 ∨ k / 8 = 3 := by omega
      have e1 : Int.tdiv (k : Int) 8 = ((k / 8 : Nat) : Int) := by rw [Int.tdiv_eq_ediv_of_nonneg (by omega)]; omega
      have e2 : Int.tmod (k : Int) 8 = ((k % 8 : Nat) : Int) := by rw [Int.tmod_eq_emod_of_nonneg (by omega)]; omega
      obtain ⟨r, hr⟩ : ∃ r, r = k % 8 := ⟨_, rfl⟩
      have hr8 : r < 8 := by omega
      rw [← hr] at s1 s2 e2
      have e3 : IntKind.i64.wrap (8 * (r : Int)) = 8 * (r : Int) := by rw [IntKind.wrap_i64]; omega
      have e4 : 0 ≤ 8 * (r : Int) := by omega
      have e5 : 8 * (r : Int) < 64 := by omega
      have e6 : (8 * (r : Int)).toNat = 8 * r := by omega
      have hix := fun w => index_byte (w := w) x hx.out k hlt
      rw [show x.getD k 0 = x[k] by rw [List.getD_eq_getElem?_getD, List.getElem?_eq_getElem hkx]; rfl] at hix
      obtain ⟨y, hy⟩ : ∃ y, y = x[k] := ⟨_, rfl⟩
      rw [← hy] at s1 hix hby
      replace hy := Lib.hid hy
      have hby2 := hby
      rcases k8 with h8 | h8 | h8 | h8
      · rw [h8] at s1 s2 e1 s3
        have g0 := s1
        have o1 := or_shl_u64m (pLim x k 0) y.toNat r s2 hby2 (by omega)
        rw [← s1] at o1
        have n1 : pLim x (k + 1) 1 = pLim x k 1 := s3 _ (by omega)
        have n2 : pLim x (k + 1) 2 = pLim x k 2 := s3 _ (by omega)
        have n3 : pLim x (k + 1) 3 = pLim x k 3 := s3 _ (by omega)
        rw [← n1, ← n2, ← n3] at a2
        replace n1 := Lib.hid n1
        replace n2 := Lib.hid n2
        replace n3 := Lib.hid n3
        replace s3 := Lib.hid s3
        replace g0 := Lib.hid g0
        replace s2 := Lib.hid s2
        clear s1
        replace e1 : Int.tdiv (k : Int) 8 = 0 := e1
        obtain ⟨P, hP⟩ : ∃ P, P = pLim x k 0 := ⟨_, rfl⟩
        obtain ⟨P2, hP2⟩ : ∃ P, P = pLim x (k + 1) 0 := ⟨_, rfl⟩
        rw [← hP] at a2 o1
        rw [← hP2] at o1
        replace hP := Lib.hid hP
        replace hP2 := Lib.hid hP2
        replace hr := Lib.hid hr
        replace h8 := Lib.hid h8
        go_wp2_with fail
        refine wp_region_relT 12 [] Ext (by kernel_rfl) (by kernel_rfl) (by kernel_rfl) (by kernel_rfl) (by kernel_rfl) Ext.refl Ext.trans (by intro p hp; cases hp) ?_
        refine relMove Ext.refl rfl rfl rfl rfl _ (.inl rfl) (by conv => lhs; whnf) (by simp only [List.set_cons_succ, List.set_cons_zero]; rfl) ?_
        refine relPure Ext.refl rfl rfl rfl rfl (c := .int .i64 0) (fun w _ => by go_simp; first | done | rfl | omega) (by simp only [List.set_cons_succ, List.set_cons_zero]; rfl) ?_
        refine relPure Ext.refl rfl rfl rfl rfl (c := .pointer (some ⟨(w.heap.size + 1 + 1), 0, none⟩)) (fun w _ => by go_simp; first | done | rfl | omega) (by simp only [List.set_cons_succ, List.set_cons_zero]; rfl) ?_
        refine relPure Ext.refl rfl rfl rfl rfl (c := .int .u64 (P : Int)) (fun w hw => by have := (a2.below hw.drew).cell 0 _ rfl; go_simp; first | done | rfl) (by simp only [List.set_cons_succ, List.set_cons_zero]; rfl) ?_
        refine relMove Ext.refl rfl rfl rfl rfl _ (.inl rfl) (by conv => lhs; whnf) (by simp only [List.set_cons_succ, List.set_cons_zero]; rfl) ?_
        refine relPure Ext.refl rfl rfl rfl rfl (fun w _ => by go_simp; first | done | rfl) (by simp only [List.set_cons_succ, List.set_cons_zero]; rfl) ?_
        refine relMove Ext.refl rfl rfl rfl rfl _ (.inl rfl) (by conv => lhs; whnf) (by simp only [List.set_cons_succ, List.set_cons_zero]; rfl) ?_
        refine relPure Ext.refl rfl rfl rfl rfl (c := .int .i64 (r : Int)) (fun w _ => by go_simp; first | done | rfl | omega) (by simp only [List.set_cons_succ, List.set_cons_zero]; rfl) ?_
        refine relPure Ext.refl rfl rfl rfl rfl (c := .int .i64 (8 * (r : Int))) (fun w _ => by go_simp; first | done | rfl | omega) (by simp only [List.set_cons_succ, List.set_cons_zero]; rfl) ?_
        refine relPure Ext.refl rfl rfl rfl rfl (fun w _ => by go_simp; first | done | rfl) (by simp only [List.set_cons_succ, List.set_cons_zero]; rfl) ?_
        refine relPure Ext.refl rfl rfl rfl rfl (c := .int .u64 (P2 : Int)) (fun w _ => by go_simp; exact o1) (by simp only [List.set_cons_succ, List.set_cons_zero]; rfl) ?_
        refine relPure Ext.refl rfl rfl rfl rfl (c := .pointer (some ⟨(w.heap.size + 1 + 1), 0, none⟩)) (fun w _ => by go_simp; first | done | rfl | omega) (by simp only [List.set_cons_succ, List.set_cons_zero]; rfl) ?_
        refine relEnd fun w2 hw2 => fill_end ?_
        have c1 := a1.below hw2.drew
        have c2 := a2.below hw2.drew
        have b2 := bw.trans (hw2.drew.mono bw.size)
        have hlen : 0 < ([.int .u64 (P : Int), .int .u64 (pLim x (k + 1) 1 : Int), .int .u64 (pLim x (k + 1) 2 : Int), .int .u64 (pLim x (k + 1) 3 : Int)] : List Value).length := by simp
        simp only [List.drop_succ_cons, List.drop_zero]
        ((with_reducible refine wpList_storeI 52 c2 hlen .u64 (P2 : Int) ?_ ?_ size_u64 ?_); rfl; rfl; intro w3 d2 f3)
        have d1 := f3.av c1 (by omega)
        have b3 := b2.trans (f3.below (B := w.heap.size) (fun k hk => by omega) b2.size)
        have d2' : Av w3 (w.heap.size + 1 + 1) 54 (uq4 (pLim x (k + 1) 0) (pLim x (k + 1) 1) (pLim x (k + 1) 2) (pLim x (k + 1) 3)) := by rw [hP2.out] at d2; exact d2
        go_wp2
        refine ⟨⟨k + 1, by omega, by go_num, b3, d1, d2'⟩, ?_⟩
        simp [intOf]
        omega
      · rw [h8] at s1 s2 e1 s3
        have g0 := s1
        have o1 := or_shl_u64m (pLim x k 1) y.toNat r s2 hby2 (by omega)
        rw [← s1] at o1
        have n1 : pLim x (k + 1) 0 = pLim x k 0 := s3 _ (by omega)
        have n2 : pLim x (k + 1) 2 = pLim x k 2 := s3 _ (by omega)
        have n3 : pLim x (k + 1) 3 = pLim x k 3 := s3 _ (by omega)
        rw [← n1, ← n2, ← n3] at a2
        replace n1 := Lib.hid n1
        replace n2 := Lib.hid n2
        replace n3 := Lib.hid n3
        replace s3 := Lib.hid s3
        replace g0 := Lib.hid g0
        replace s2 := Lib.hid s2
        clear s1
        replace e1 : Int.tdiv (k : Int) 8 = 1 := e1
        obtain ⟨P, hP⟩ : ∃ P, P = pLim x k 1 := ⟨_, rfl⟩
        obtain ⟨P2, hP2⟩ : ∃ P, P = pLim x (k + 1) 1 := ⟨_, rfl⟩
        rw [← hP] at a2 o1
        rw [← hP2] at o1
        replace hP := Lib.hid hP
        replace hP2 := Lib.hid hP2
        replace hr := Lib.hid hr
        replace h8 := Lib.hid h8
        go_wp2_with fail
        refine wp_region_relT 12 [] Ext (by kernel_rfl) (by kernel_rfl) (by kernel_rfl) (by kernel_rfl) (by kernel_rfl) Ext.refl Ext.trans (by intro p hp; cases hp) ?_
        refine relMove Ext.refl rfl rfl rfl rfl _ (.inl rfl) (by conv => lhs; whnf) (by simp only [List.set_cons_succ, List.set_cons_zero]; rfl) ?_
        refine relPure Ext.refl rfl rfl rfl rfl (c := .int .i64 1) (fun w _ => by go_simp; first | done | rfl | omega) (by simp only [List.set_cons_succ, List.set_cons_zero]; rfl) ?_
        refine relPure Ext.refl rfl rfl rfl rfl (c := .pointer (some ⟨(w.heap.size + 1 + 1), 1, none⟩)) (fun w _ => by go_simp; first | done | rfl | omega) (by simp only [List.set_cons_succ, List.set_cons_zero]; rfl) ?_
        refine relPure Ext.refl rfl rfl rfl rfl (c := .int .u64 (P : Int)) (fun w hw => by have := (a2.below hw.drew).cell 1 _ rfl; go_simp; first | done | rfl) (by simp only [List.set_cons_succ, List.set_cons_zero]; rfl) ?_
        refine relMove Ext.refl rfl rfl rfl rfl _ (.inl rfl) (by conv => lhs; whnf) (by simp only [List.set_cons_succ, List.set_cons_zero]; rfl) ?_
        refine relPure Ext.refl rfl rfl rfl rfl (fun w _ => by go_simp; first | done | rfl) (by simp only [List.set_cons_succ, List.set_cons_zero]; rfl) ?_
        refine relMove Ext.refl rfl rfl rfl rfl _ (.inl rfl) (by conv => lhs; whnf) (by simp only [List.set_cons_succ, List.set_cons_zero]; rfl) ?_
        refine relPure Ext.refl rfl rfl rfl rfl (c := .int .i64 (r : Int)) (fun w _ => by go_simp; first | done | rfl | omega) (by simp only [List.set_cons_succ, List.set_cons_zero]; rfl) ?_
        refine relPure Ext.refl rfl rfl rfl rfl (c := .int .i64 (8 * (r : Int))) (fun w _ => by go_simp; first | done | rfl | omega) (by simp only [List.set_cons_succ, List.set_cons_zero]; rfl) ?_
        refine relPure Ext.refl rfl rfl rfl rfl (fun w _ => by go_simp; first | done | rfl) (by simp only [List.set_cons_succ, List.set_cons_zero]; rfl) ?_
        refine relPure Ext.refl rfl rfl rfl rfl (c := .int .u64 (P2 : Int)) (fun w _ => by go_simp; exact o1) (by simp only [List.set_cons_succ, List.set_cons_zero]; rfl) ?_
        refine relPure Ext.refl rfl rfl rfl rfl (c := .pointer (some ⟨(w.heap.size + 1 + 1), 1, none⟩)) (fun w _ => by go_simp; first | done | rfl | omega) (by simp only [List.set_cons_succ, List.set_cons_zero]; rfl) ?_
        refine relEnd fun w2 hw2 => fill_end ?_
        have c1 := a1.below hw2.drew
        have c2 := a2.below hw2.drew
        have b2 := bw.trans (hw2.drew.mono bw.size)
        have hlen : 1 < ([.int .u64 (pLim x (k + 1) 0 : Int), .int .u64 (P : Int), .int .u64 (pLim x (k + 1) 2 : Int), .int .u64 (pLim x (k + 1) 3 : Int)] : List Value).length := by simp
        simp only [List.drop_succ_cons, List.drop_zero]
        ((with_reducible refine wpList_storeI 52 c2 hlen .u64 (P2 : Int) ?_ ?_ size_u64 ?_); rfl; rfl; intro w3 d2 f3)
        have d1 := f3.av c1 (by omega)
        have b3 := b2.trans (f3.below (B := w.heap.size) (fun k hk => by omega) b2.size)
        have d2' : Av w3 (w.heap.size + 1 + 1) 54 (uq4 (pLim x (k + 1) 0) (pLim x (k + 1) 1) (pLim x (k + 1) 2) (pLim x (k + 1) 3)) := by rw [hP2.out] at d2; exact d2
        go_wp2
        refine ⟨⟨k + 1, by omega, by go_num, b3, d1, d2'⟩, ?_⟩
        simp [intOf]
        omega
      · rw [h8] at s1 s2 e1 s3
        have g0 := s1
        have o1 := or_shl_u64m (pLim x k 2) y.toNat r s2 hby2 (by omega)
        rw [← s1] at o1
        have n1 : pLim x (k + 1) 0 = pLim x k 0 := s3 _ (by omega)
        have n2 : pLim x (k + 1) 1 = pLim x k 1 := s3 _ (by omega)
        have n3 : pLim x (k + 1) 3 = pLim x k 3 := s3 _ (by omega)
        rw [← n1, ← n2, ← n3] at a2
        replace n1 := Lib.hid n1
        replace n2 := Lib.hid n2
        replace n3 := Lib.hid n3
        replace s3 := Lib.hid s3
        replace g0 := Lib.hid g0
        replace s2 := Lib.hid s2
        clear s1
        replace e1 : Int.tdiv (k : Int) 8 = 2 := e1
        obtain ⟨P, hP⟩ : ∃ P, P = pLim x k 2 := ⟨_, rfl⟩
        obtain ⟨P2, hP2⟩ : ∃ P, P = pLim x (k + 1) 2 := ⟨_, rfl⟩
        rw [← hP] at a2 o1
        rw [← hP2] at o1
        replace hP := Lib.hid hP
        replace hP2 := Lib.hid hP2
        replace hr := Lib.hid hr
        replace h8 := Lib.hid h8
        go_wp2_with fail
        refine wp_region_relT 12 [] Ext (by kernel_rfl) (by kernel_rfl) (by kernel_rfl) (by kernel_rfl) (by kernel_rfl) Ext.refl Ext.trans (by intro p hp; cases hp) ?_
        refine relMove Ext.refl rfl rfl rfl rfl _ (.inl rfl) (by conv => lhs; whnf) (by simp only [List.set_cons_succ, List.set_cons_zero]; rfl) ?_
        refine relPure Ext.refl rfl rfl rfl rfl (c := .int .i64 2) (fun w _ => by go_simp; first | done | rfl | omega) (by simp only [List.set_cons_succ, List.set_cons_zero]; rfl) ?_
        refine relPure Ext.refl rfl rfl rfl rfl (c := .pointer (some ⟨(w.heap.size + 1 + 1), 2, none⟩)) (fun w _ => by go_simp; first | done | rfl | omega) (by simp only [List.set_cons_succ, List.set_cons_zero]; rfl) ?_
        refine relPure Ext.refl rfl rfl rfl rfl (c := .int .u64 (P : Int)) (fun w hw => by have := (a2.below hw.drew).cell 2 _ rfl; go_simp; first | done | rfl) (by simp only [List.set_cons_succ, List.set_cons_zero]; rfl) ?_
        refine relMove Ext.refl rfl rfl rfl rfl _ (.inl rfl) (by conv => lhs; whnf) (by simp only [List.set_cons_succ, List.set_cons_zero]; rfl) ?_
        refine relPure Ext.refl rfl rfl rfl rfl (fun w _ => by go_simp; first | done | rfl) (by simp only [List.set_cons_succ, List.set_cons_zero]; rfl) ?_
        refine relMove Ext.refl rfl rfl rfl rfl _ (.inl rfl) (by conv => lhs; whnf) (by simp only [List.set_cons_succ, List.set_cons_zero]; rfl) ?_
        refine relPure Ext.refl rfl rfl rfl rfl (c := .int .i64 (r : Int)) (fun w _ => by go_simp; first | done | rfl | omega) (by simp only [List.set_cons_succ, List.set_cons_zero]; rfl) ?_
        refine relPure Ext.refl rfl rfl rfl rfl (c := .int .i64 (8 * (r : Int))) (fun w _ => by go_simp; first | done | rfl | omega) (by simp only [List.set_cons_succ, List.set_cons_zero]; rfl) ?_
        refine relPure Ext.refl rfl rfl rfl rfl (fun w _ => by go_simp; first | done | rfl) (by simp only [List.set_cons_succ, List.set_cons_zero]; rfl) ?_
        refine relPure Ext.refl rfl rfl rfl rfl (c := .int .u64 (P2 : Int)) (fun w _ => by go_simp; exact o1) (by simp only [List.set_cons_succ, List.set_cons_zero]; rfl) ?_
        refine relPure Ext.refl rfl rfl rfl rfl (c := .pointer (some ⟨(w.heap.size + 1 + 1), 2, none⟩)) (fun w _ => by go_simp; first | done | rfl | omega) (by simp only [List.set_cons_succ, List.set_cons_zero]; rfl) ?_
        refine relEnd fun w2 hw2 => fill_end ?_
        have c1 := a1.below hw2.drew
        have c2 := a2.below hw2.drew
        have b2 := bw.trans (hw2.drew.mono bw.size)
        have hlen : 2 < ([.int .u64 (pLim x (k + 1) 0 : Int), .int .u64 (pLim x (k + 1) 1 : Int), .int .u64 (P : Int), .int .u64 (pLim x (k + 1) 3 : Int)] : List Value).length := by simp
        simp only [List.drop_succ_cons, List.drop_zero]
        ((with_reducible refine wpList_storeI 52 c2 hlen .u64 (P2 : Int) ?_ ?_ size_u64 ?_); rfl; rfl; intro w3 d2 f3)
        have d1 := f3.av c1 (by omega)
        have b3 := b2.trans (f3.below (B := w.heap.size) (fun k hk => by omega) b2.size)
        have d2' : Av w3 (w.heap.size + 1 + 1) 54 (uq4 (pLim x (k + 1) 0) (pLim x (k + 1) 1) (pLim x (k + 1) 2) (pLim x (k + 1) 3)) := by rw [hP2.out] at d2; exact d2
        go_wp2
        refine ⟨⟨k + 1, by omega, by go_num, b3, d1, d2'⟩, ?_⟩
        simp [intOf]
        omega
      · rw [h8] at s1 s2 e1 s3
        have g0 := s1
        have o1 := or_shl_u64m (pLim x k 3) y.toNat r s2 hby2 (by omega)
        rw [← s1] at o1
        have n1 : pLim x (k + 1) 0 = pLim x k 0 := s3 _ (by omega)
        have n2 : pLim x (k + 1) 1 = pLim x k 1 := s3 _ (by omega)
        have n3 : pLim x (k + 1) 2 = pLim x k 2 := s3 _ (by omega)
        rw [← n1, ← n2, ← n3] at a2
        replace n1 := Lib.hid n1
        replace n2 := Lib.hid n2
        replace n3 := Lib.hid n3
        replace s3 := Lib.hid s3
        replace g0 := Lib.hid g0
        replace s2 := Lib.hid s2
        clear s1
        replace e1 : Int.tdiv (k : Int) 8 = 3 := e1
        obtain ⟨P, hP⟩ : ∃ P, P = pLim x k 3 := ⟨_, rfl⟩
        obtain ⟨P2, hP2⟩ : ∃ P, P = pLim x (k + 1) 3 := ⟨_, rfl⟩
        rw [← hP] at a2 o1
        rw [← hP2] at o1
        replace hP := Lib.hid hP
        replace hP2 := Lib.hid hP2
        replace hr := Lib.hid hr
        replace h8 := Lib.hid h8
        go_wp2_with fail
        refine wp_region_relT 12 [] Ext (by kernel_rfl) (by kernel_rfl) (by kernel_rfl) (by kernel_rfl) (by kernel_rfl) Ext.refl Ext.trans (by intro p hp; cases hp) ?_
        refine relMove Ext.refl rfl rfl rfl rfl _ (.inl rfl) (by conv => lhs; whnf) (by simp only [List.set_cons_succ, List.set_cons_zero]; rfl) ?_
        refine relPure Ext.refl rfl rfl rfl rfl (c := .int .i64 3) (fun w _ => by go_simp; first | done | rfl | omega) (by simp only [List.set_cons_succ, List.set_cons_zero]; rfl) ?_
        refine relPure Ext.refl rfl rfl rfl rfl (c := .pointer (some ⟨(w.heap.size + 1 + 1), 3, none⟩)) (fun w _ => by go_simp; first | done | rfl | omega) (by simp only [List.set_cons_succ, List.set_cons_zero]; rfl) ?_
        refine relPure Ext.refl rfl rfl rfl rfl (c := .int .u64 (P : Int)) (fun w hw => by have := (a2.below hw.drew).cell 3 _ rfl; go_simp; first | done | rfl) (by simp only [List.set_cons_succ, List.set_cons_zero]; rfl) ?_
        refine relMove Ext.refl rfl rfl rfl rfl _ (.inl rfl) (by conv => lhs; whnf) (by simp only [List.set_cons_succ, List.set_cons_zero]; rfl) ?_
        refine relPure Ext.refl rfl rfl rfl rfl (fun w _ => by go_simp; first | done | rfl) (by simp only [List.set_cons_succ, List.set_cons_zero]; rfl) ?_
        refine relMove Ext.refl rfl rfl rfl rfl _ (.inl rfl) (by conv => lhs; whnf) (by simp only [List.set_cons_succ, List.set_cons_zero]; rfl) ?_
        refine relPure Ext.refl rfl rfl rfl rfl (c := .int .i64 (r : Int)) (fun w _ => by go_simp; first | done | rfl | omega) (by simp only [List.set_cons_succ, List.set_cons_zero]; rfl) ?_
        refine relPure Ext.refl rfl rfl rfl rfl (c := .int .i64 (8 * (r : Int))) (fun w _ => by go_simp; first | done | rfl | omega) (by simp only [List.set_cons_succ, List.set_cons_zero]; rfl) ?_
        refine relPure Ext.refl rfl rfl rfl rfl (fun w _ => by go_simp; first | done | rfl) (by simp only [List.set_cons_succ, List.set_cons_zero]; rfl) ?_
        refine relPure Ext.refl rfl rfl rfl rfl (c := .int .u64 (P2 : Int)) (fun w _ => by go_simp; exact o1) (by simp only [List.set_cons_succ, List.set_cons_zero]; rfl) ?_
        refine relPure Ext.refl rfl rfl rfl rfl (c := .pointer (some ⟨(w.heap.size + 1 + 1), 3, none⟩)) (fun w _ => by go_simp; first | done | rfl | omega) (by simp only [List.set_cons_succ, List.set_cons_zero]; rfl) ?_
        refine relEnd fun w2 hw2 => fill_end ?_
        have c1 := a1.below hw2.drew
        have c2 := a2.below hw2.drew
        have b2 := bw.trans (hw2.drew.mono bw.size)
        have hlen : 3 < ([.int .u64 (pLim x (k + 1) 0 : Int), .int .u64 (pLim x (k + 1) 1 : Int), .int .u64 (pLim x (k + 1) 2 : Int), .int .u64 (P : Int)] : List Value).length := by simp
        simp only [List.drop_succ_cons, List.drop_zero]
        ((with_reducible refine wpList_storeI 52 c2 hlen .u64 (P2 : Int) ?_ ?_ size_u64 ?_); rfl; rfl; intro w3 d2 f3)
        have d1 := f3.av c1 (by omega)
        have b3 := b2.trans (f3.below (B := w.heap.size) (fun k hk => by omega) b2.size)
        have d2' : Av w3 (w.heap.size + 1 + 1) 54 (uq4 (pLim x (k + 1) 0) (pLim x (k + 1) 1) (pLim x (k + 1) 2) (pLim x (k + 1) 3)) := by rw [hP2.out] at d2; exact d2
        go_wp2
        refine ⟨⟨k + 1, by omega, by go_num, b3, d1, d2'⟩, ?_⟩
        simp [intOf]
        omega
    · obtain rfl : k = 32 := by omega
      have hb : w.heap.size ≤ (w.heap.size + 1) := by omega
      go_upto_region 7 with fail
      go_wp2_with (first
        | ((with_reducible refine wpList_loadF 54 a2 ?_ _ 4 ?_ Tryd.underlying54 ?_ ?_ ?_); rfl; rfl; rfl; kernel_rfl)
        | ((with_reducible refine wpList_storeFA 54 bw a1 hb (uq4 (pLim x 32 0) (pLim x 32 1) (pLim x 32 2) (pLim x 32 3)) ?_ ?_ 4 ?_ ?_ ?_ ?_ ?_); rfl; rfl; rfl; kernel_rfl; rfl; rfl; intro w6 a6 b6 k6 z6))
      refine bodyPost_ret (results_cell_row rfl _ _ (w.heap.size + 1) _ _ (0, 0) _ (by rfl) a6 Tryd.underlying54 rfl (by kernel_rfl)) rfl ⟨rfl, b6⟩
theorem cmpN_pos (a b : Nat) : decide ((0 : Int) < cmpN a b) = decide (b < a) := by
  rw [decide_eq_decide]
  unfold cmpN
  split
  · omega
  · split <;> omega
/-- is a hash low enough? -/
def mMeets (x : List UInt8) (b l : Nat) : Nat := match mExp b with
  | none => 7
  | some t => match mExp l with
    | none => 7
    | some u => if u < t then 7 else if t < Cm.le x then 6 else 0
set_option maxRecDepth 10000 in
set_option maxHeartbeats 2000000 in
theorem Meets_n1 (x : List UInt8) (b l : Nat) (hb : b < 4294967296) (h1 : mExp b = none) (w : World) : Calls Tryd.prog 11 #[.agg (hcs x), .int .u32 (b : Int), .int .u32 (l : Int)] w fun e w' => e = .returned (.int .i64 7) ∧ Below w.heap.size w w' := by
  obtain ⟨W, hW⟩ : ∃ W, W = w.alloc (.cells (x.map bv).toArray 24) := ⟨_, rfl⟩
  obtain ⟨H, hH⟩ : ∃ H, H = w.heap.size := ⟨_, rfl⟩
  have bW : Below w.heap.size w W := by rw [hW]; exact (Below.refl _ _).alloc (Nat.le_refl _) _
  have aW : Av W H 24 (x.map bv) := by rw [hW, hH]; exact heap_alloc_new _ _
  replace hW := Lib.hid hW
  replace hH := Lib.hid hH
  have HE := TExp b hb
  rw [expV_none h1, uc_zero] at HE
  replace HE := Lib.hid HE
  clear h1
  go_enter Tryd.func11, Tryd.ntmps11
  go_upto_region 1 with fail
  rw [← hW.out, ← hH.out]
  go_wp2_with (first
    | (go_at_call 27; refine (HE.out W).mono ?_; rintro e w1 ⟨rfl, b1⟩)
    | ((with_reducible refine wpList_storeF 54 ((Below.refl w1.heap.size w1).alloc (Nat.le_refl _) _) (heap_alloc_new _ _) (Nat.le_refl _) (uq4 0 0 0 0) ?_ ?_ 4 ?_ ?_ ?_ ?_ ?_); rfl; rfl; rfl; kernel_rfl; rfl; rfl; intro w2 a2 b2 k2 z2; clear k2; replace z2 := Lib.hid z2))
  go_ret
  exact ⟨rfl, (bW.trans (b1.mono bW.size)).trans (b2.mono (bW.trans (b1.mono bW.size)).size)⟩
set_option maxRecDepth 10000 in
set_option maxHeartbeats 2000000 in
theorem Meets_n2 (x : List UInt8) (_ : x.length = 32) (b l : Nat) (hb : b < 4294967296) (hl : l < 4294967296) (t : Nat) (h1 : mExp b = some t) (h2 : mExp l = none) (w : World) : Calls Tryd.prog 11 #[.agg (hcs x), .int .u32 (b : Int), .int .u32 (l : Int)] w fun e w' => e = .returned (.int .i64 7) ∧ Below w.heap.size w w' := by
  obtain ⟨W, hW⟩ : ∃ W, W = w.alloc (.cells (x.map bv).toArray 24) := ⟨_, rfl⟩
  obtain ⟨H, hH⟩ : ∃ H, H = w.heap.size := ⟨_, rfl⟩
  have bW : Below w.heap.size w W := by rw [hW]; exact (Below.refl _ _).alloc (Nat.le_refl _) _
  have aW : Av W H 24 (x.map bv) := by rw [hW, hH]; exact heap_alloc_new _ _
  replace hW := Lib.hid hW
  replace hH := Lib.hid hH
  have HE := TExp b hb
  rw [expV_some h1] at HE
  have HF := TExp l hl
  rw [expV_none h2, uc_zero] at HF
  replace HE := Lib.hid HE
  replace HF := Lib.hid HF
  clear h1 h2
  go_enter Tryd.func11, Tryd.ntmps11
  go_upto_region 1 with fail
  rw [← hW.out, ← hH.out]
  go_upto_region 2 with (first
    | (go_at_call 27; refine (HE.out W).mono ?_; rintro e w1 ⟨rfl, b1⟩)
    | ((with_reducible refine wpList_storeF 54 ((Below.refl w1.heap.size w1).alloc (Nat.le_refl _) _) (heap_alloc_new _ _) (Nat.le_refl _) (uc t) ?_ ?_ 4 ?_ ?_ ?_ ?_ ?_); rfl; rfl; rfl; kernel_rfl; rfl; rfl; intro w2 a2 b2 k2 z2; clear k2; replace z2 := Lib.hid z2))
  obtain ⟨G, hG⟩ : ∃ G, G = w1.heap.size := ⟨_, rfl⟩
  rw [← hG] at a2 ⊢
  replace hG := Lib.hid hG
  have bw2 := (bW.trans (b1.mono bW.size)).trans (b2.mono (bW.trans (b1.mono bW.size)).size)
  go_upto_region 5 with (first
    | (go_at_call 27; refine (HF.out w2).mono ?_; rintro e w3 ⟨rfl, b3⟩)
    | ((with_reducible refine wpList_storeF 54 ((Below.refl w3.heap.size w3).alloc (Nat.le_refl _) _) (heap_alloc_new _ _) (Nat.le_refl _) (uq4 0 0 0 0) ?_ ?_ 4 ?_ ?_ ?_ ?_ ?_); rfl; rfl; rfl; kernel_rfl; rfl; rfl; intro w4 a4 b4 k4 z4; clear k4; replace z4 := Lib.hid z4))
  obtain ⟨J, hJ⟩ : ∃ J, J = w3.heap.size := ⟨_, rfl⟩
  rw [← hJ] at a4 ⊢
  replace hJ := Lib.hid hJ
  have bw4 := (bw2.trans (b3.mono bw2.size)).trans (b4.mono (bw2.trans (b3.mono bw2.size)).size)
  go_wp2
  go_ret
  exact ⟨rfl, bw4⟩
set_option maxRecDepth 10000 in
set_option maxHeartbeats 2000000 in
theorem Meets_n3 (x : List UInt8) (_ : x.length = 32) (b l : Nat) (hb : b < 4294967296) (hl : l < 4294967296) (t : Nat) (h1 : mExp b = some t) (u : Nat) (h2 : mExp l = some u) (h3 : u < t) (w : World) : Calls Tryd.prog 11 #[.agg (hcs x), .int .u32 (b : Int), .int .u32 (l : Int)] w fun e w' => e = .returned (.int .i64 7) ∧ Below w.heap.size w w' := by
  obtain ⟨W, hW⟩ : ∃ W, W = w.alloc (.cells (x.map bv).toArray 24) := ⟨_, rfl⟩
  obtain ⟨H, hH⟩ : ∃ H, H = w.heap.size := ⟨_, rfl⟩
  have bW : Below w.heap.size w W := by rw [hW]; exact (Below.refl _ _).alloc (Nat.le_refl _) _
  have aW : Av W H 24 (x.map bv) := by rw [hW, hH]; exact heap_alloc_new _ _
  replace hW := Lib.hid hW
  replace hH := Lib.hid hH
  have HE := TExp b hb
  rw [expV_some h1] at HE
  have HF := TExp l hl
  rw [expV_some h2] at HF
  replace HE := Lib.hid HE
  replace HF := Lib.hid HF
  have HC := UCmp t u (mExp_lt h1).1 (mExp_lt h2).1
  have tc := cmpN_pos t u
  generalize cmpN t u = c at *
  rw [decide_eq_true h3] at tc
  replace HC := Lib.hid HC
  clear h1 h2 h3
  go_enter Tryd.func11, Tryd.ntmps11
  go_upto_region 1 with fail
  rw [← hW.out, ← hH.out]
  go_upto_region 2 with (first
    | (go_at_call 27; refine (HE.out W).mono ?_; rintro e w1 ⟨rfl, b1⟩)
    | ((with_reducible refine wpList_storeF 54 ((Below.refl w1.heap.size w1).alloc (Nat.le_refl _) _) (heap_alloc_new _ _) (Nat.le_refl _) (uc t) ?_ ?_ 4 ?_ ?_ ?_ ?_ ?_); rfl; rfl; rfl; kernel_rfl; rfl; rfl; intro w2 a2 b2 k2 z2; clear k2; replace z2 := Lib.hid z2))
  obtain ⟨G, hG⟩ : ∃ G, G = w1.heap.size := ⟨_, rfl⟩
  rw [← hG] at a2 ⊢
  replace hG := Lib.hid hG
  have bw2 := (bW.trans (b1.mono bW.size)).trans (b2.mono (bW.trans (b1.mono bW.size)).size)
  go_upto_region 5 with (first
    | (go_at_call 27; refine (HF.out w2).mono ?_; rintro e w3 ⟨rfl, b3⟩)
    | ((with_reducible refine wpList_storeF 54 ((Below.refl w3.heap.size w3).alloc (Nat.le_refl _) _) (heap_alloc_new _ _) (Nat.le_refl _) (uc u) ?_ ?_ 4 ?_ ?_ ?_ ?_ ?_); rfl; rfl; rfl; kernel_rfl; rfl; rfl; intro w4 a4 b4 k4 z4; clear k4; replace z4 := Lib.hid z4))
  obtain ⟨J, hJ⟩ : ∃ J, J = w3.heap.size := ⟨_, rfl⟩
  rw [← hJ] at a4 ⊢
  replace hJ := Lib.hid hJ
  have bw4 := (bw2.trans (b3.mono bw2.size)).trans (b4.mono (bw2.trans (b3.mono bw2.size)).size)
  have a5 := (a2.below b3).below b4
  go_wp2_with (first
    | ((with_reducible refine wpList_loadG 54 a5 ?_ ?_ _ 4 ?_ Tryd.underlying54 ?_ ?_ ?_); rfl; rfl; rfl; rfl; kernel_rfl)
    | ((with_reducible refine wpList_loadG 54 a4 ?_ ?_ _ 4 ?_ Tryd.underlying54 ?_ ?_ ?_); rfl; rfl; rfl; rfl; kernel_rfl)
    | (go_at_call 28; refine (HC.out w4).mono ?_; rintro e w5 ⟨rfl, b5⟩))
  have bw5 := bw4.trans (b5.mono bw4.size)
  go_ret
  exact ⟨rfl, bw5⟩
set_option maxRecDepth 10000 in
set_option maxHeartbeats 2000000 in
theorem Meets_n4 (x : List UInt8) (hx : x.length = 32) (b l : Nat) (hb : b < 4294967296) (hl : l < 4294967296) (t : Nat) (h1 : mExp b = some t) (u : Nat) (h2 : mExp l = some u) (h3 : ¬ u < t) (h4 : t < Cm.le x) (w : World) : Calls Tryd.prog 11 #[.agg (hcs x), .int .u32 (b : Int), .int .u32 (l : Int)] w fun e w' => e = .returned (.int .i64 6) ∧ Below w.heap.size w w' := by
  obtain ⟨W, hW⟩ : ∃ W, W = w.alloc (.cells (x.map bv).toArray 24) := ⟨_, rfl⟩
  obtain ⟨H, hH⟩ : ∃ H, H = w.heap.size := ⟨_, rfl⟩
  have bW : Below w.heap.size w W := by rw [hW]; exact (Below.refl _ _).alloc (Nat.le_refl _) _
  have aW : Av W H 24 (x.map bv) := by rw [hW, hH]; exact heap_alloc_new _ _
  replace hW := Lib.hid hW
  replace hH := Lib.hid hH
  have HE := TExp b hb
  rw [expV_some h1] at HE
  have HF := TExp l hl
  rw [expV_some h2] at HF
  replace HE := Lib.hid HE
  replace HF := Lib.hid HF
  have HC := UCmp t u (mExp_lt h1).1 (mExp_lt h2).1
  have tc := cmpN_pos t u
  generalize cmpN t u = c at *
  rw [decide_eq_false h3] at tc
  have HN := HNum x hx
  have HD := UCmp (Cm.le x) t (le_32 x hx) (mExp_lt h1).1
  have td := cmpN_pos (Cm.le x) t
  rw [decide_eq_true h4] at td
  have td2 := td
  simp only [decide_eq_true_eq] at td2
  have hx32 : (x.map bv).length = 32 := by rw [List.length_map, hx]
  generalize cmpN (Cm.le x) t = c2 at *
  generalize Cm.le x = N at *
  replace HC := Lib.hid HC
  replace HN := Lib.hid HN
  replace HD := Lib.hid HD
  replace hx32 := Lib.hid hx32
  clear h1 h2 h3 h4 hx
  go_enter Tryd.func11, Tryd.ntmps11
  go_upto_region 1 with fail
  rw [← hW.out, ← hH.out]
  go_upto_region 2 with (first
    | (go_at_call 27; refine (HE.out W).mono ?_; rintro e w1 ⟨rfl, b1⟩)
    | ((with_reducible refine wpList_storeF 54 ((Below.refl w1.heap.size w1).alloc (Nat.le_refl _) _) (heap_alloc_new _ _) (Nat.le_refl _) (uc t) ?_ ?_ 4 ?_ ?_ ?_ ?_ ?_); rfl; rfl; rfl; kernel_rfl; rfl; rfl; intro w2 a2 b2 k2 z2; clear k2; replace z2 := Lib.hid z2))
  obtain ⟨G, hG⟩ : ∃ G, G = w1.heap.size := ⟨_, rfl⟩
  rw [← hG] at a2 ⊢
  replace hG := Lib.hid hG
  have bw2 := (bW.trans (b1.mono bW.size)).trans (b2.mono (bW.trans (b1.mono bW.size)).size)
  go_upto_region 5 with (first
    | (go_at_call 27; refine (HF.out w2).mono ?_; rintro e w3 ⟨rfl, b3⟩)
    | ((with_reducible refine wpList_storeF 54 ((Below.refl w3.heap.size w3).alloc (Nat.le_refl _) _) (heap_alloc_new _ _) (Nat.le_refl _) (uc u) ?_ ?_ 4 ?_ ?_ ?_ ?_ ?_); rfl; rfl; rfl; kernel_rfl; rfl; rfl; intro w4 a4 b4 k4 z4; clear k4; replace z4 := Lib.hid z4))
  obtain ⟨J, hJ⟩ : ∃ J, J = w3.heap.size := ⟨_, rfl⟩
  rw [← hJ] at a4 ⊢
  replace hJ := Lib.hid hJ
  have bw4 := (bw2.trans (b3.mono bw2.size)).trans (b4.mono (bw2.trans (b3.mono bw2.size)).size)
  have a5 := (a2.below b3).below b4
  go_upto_region 7 with (first
    | ((with_reducible refine wpList_loadG 54 a5 ?_ ?_ _ 4 ?_ Tryd.underlying54 ?_ ?_ ?_); rfl; rfl; rfl; rfl; kernel_rfl)
    | ((with_reducible refine wpList_loadG 54 a4 ?_ ?_ _ 4 ?_ Tryd.underlying54 ?_ ?_ ?_); rfl; rfl; rfl; rfl; kernel_rfl)
    | (go_at_call 28; refine (HC.out w4).mono ?_; rintro e w5 ⟨rfl, b5⟩))
  have bw5 := bw4.trans (b5.mono bw4.size)
  go_wp2_with fail
  refine wp_region_rel [] Ext (by kernel_rfl) (by kernel_rfl) (by kernel_rfl) Ext.refl Ext.trans (by intro p hp; cases hp) ?_
  refine relPure Ext.refl rfl rfl rfl rfl (c := .agg (hcs x)) (fun w hw => exec_loadAv (((aW.below b1).below b2 |>.below b3 |>.below b4 |>.below b5).below hw.drew) _ _ rfl rfl _ 32 hx32.out Tryd.underlying24 rfl (by kernel_rfl)) (by simp only [List.set_cons_succ, List.set_cons_zero]; rfl) ?_
  refine relCall1 rfl rfl rfl rfl (c := .agg (uc N).toArray) 29 #[.agg (hcs x)] (fun w => by go_simp) (fun w hw => (HN.out w).mono ?_) (by simp only [List.set_cons_succ, List.set_cons_zero]; rfl) ?_
  · rintro e w' ⟨rfl, hb⟩
    exact ⟨rfl, hb⟩
  refine relPure Ext.refl rfl rfl rfl rfl (c := .agg (uc t).toArray) (fun w hw => exec_loadAv ((a5.below b5).below hw.drew) _ _ rfl rfl _ 4 rfl Tryd.underlying54 rfl (by kernel_rfl)) (by simp only [List.set_cons_succ, List.set_cons_zero]; rfl) ?_
  refine relCall1 rfl rfl rfl rfl (c := .int .i64 c2) 28 #[.agg (uc N).toArray, .agg (uc t).toArray] (fun w => by go_simp) (fun w hw => (HD.out w).mono ?_) (by simp only [List.set_cons_succ, List.set_cons_zero]; rfl) ?_
  · rintro e w' ⟨rfl, hb⟩
    exact ⟨rfl, hb⟩
  refine relPure Ext.refl rfl rfl rfl rfl (c := .bool true) (fun w _ => by go_simp; first | done | rfl | exact td2 | omega) (by simp only [List.set_cons_succ, List.set_cons_zero]; rfl) ?_
  refine relEnd fun w6 hw6 => fill_end ?_
  go_wp2
  go_ret
  exact ⟨rfl, bw5.trans (hw6.drew.mono bw5.size)⟩
set_option maxRecDepth 10000 in
set_option maxHeartbeats 2000000 in
theorem Meets_n5 (x : List UInt8) (hx : x.length = 32) (b l : Nat) (hb : b < 4294967296) (hl : l < 4294967296) (t : Nat) (h1 : mExp b = some t) (u : Nat) (h2 : mExp l = some u) (h3 : ¬ u < t) (h4 : ¬ t < Cm.le x) (w : World) : Calls Tryd.prog 11 #[.agg (hcs x), .int .u32 (b : Int), .int .u32 (l : Int)] w fun e w' => e = .returned (.int .i64 0) ∧ Below w.heap.size w w' := by
  obtain ⟨W, hW⟩ : ∃ W, W = w.alloc (.cells (x.map bv).toArray 24) := ⟨_, rfl⟩
  obtain ⟨H, hH⟩ : ∃ H, H = w.heap.size := ⟨_, rfl⟩
  have bW : Below w.heap.size w W := by rw [hW]; exact (Below.refl _ _).alloc (Nat.le_refl _) _
  have aW : Av W H 24 (x.map bv) := by rw [hW, hH]; exact heap_alloc_new _ _
  replace hW := Lib.hid hW
  replace hH := Lib.hid hH
  have HE := TExp b hb
  rw [expV_some h1] at HE
  have HF := TExp l hl
  rw [expV_some h2] at HF
  replace HE := Lib.hid HE
  replace HF := Lib.hid HF
  have HC := UCmp t u (mExp_lt h1).1 (mExp_lt h2).1
  have tc := cmpN_pos t u
  generalize cmpN t u = c at *
  rw [decide_eq_false h3] at tc
  have HN := HNum x hx
  have HD := UCmp (Cm.le x) t (le_32 x hx) (mExp_lt h1).1
  have td := cmpN_pos (Cm.le x) t
  rw [decide_eq_false h4] at td
  have td2 := td
  simp only [decide_eq_false_iff_not, Int.not_lt] at td2
  have hx32 : (x.map bv).length = 32 := by rw [List.length_map, hx]
  generalize cmpN (Cm.le x) t = c2 at *
  generalize Cm.le x = N at *
  replace HC := Lib.hid HC
  replace HN := Lib.hid HN
  replace HD := Lib.hid HD
  replace hx32 := Lib.hid hx32
  clear h1 h2 h3 h4 hx
  go_enter Tryd.func11, Tryd.ntmps11
  go_upto_region 1 with fail
  rw [← hW.out, ← hH.out]
  go_upto_region 2 with (first
    | (go_at_call 27; refine (HE.out W).mono ?_; rintro e w1 ⟨rfl, b1⟩)
    | ((with_reducible refine wpList_storeF 54 ((Below.refl w1.heap.size w1).alloc (Nat.le_refl _) _) (heap_alloc_new _ _) (Nat.le_refl _) (uc t) ?_ ?_ 4 ?_ ?_ ?_ ?_ ?_); rfl; rfl; rfl; kernel_rfl; rfl; rfl; intro w2 a2 b2 k2 z2; clear k2; replace z2 := Lib.hid z2))
  obtain ⟨G, hG⟩ : ∃ G, G = w1.heap.size := ⟨_, rfl⟩
  rw [← hG] at a2 ⊢
  replace hG := Lib.hid hG
  have bw2 := (bW.trans (b1.mono bW.size)).trans (b2.mono (bW.trans (b1.mono bW.size)).size)
  go_upto_region 5 with (first
    | (go_at_call 27; refine (HF.out w2).mono ?_; rintro e w3 ⟨rfl, b3⟩)
    | ((with_reducible refine wpList_storeF 54 ((Below.refl w3.heap.size w3).alloc (Nat.le_refl _) _) (heap_alloc_new _ _) (Nat.le_refl _) (uc u) ?_ ?_ 4 ?_ ?_ ?_ ?_ ?_); rfl; rfl; rfl; kernel_rfl; rfl; rfl; intro w4 a4 b4 k4 z4; clear k4; replace z4 := Lib.hid z4))
  obtain ⟨J, hJ⟩ : ∃ J, J = w3.heap.size := ⟨_, rfl⟩
  rw [← hJ] at a4 ⊢
  replace hJ := Lib.hid hJ
  have bw4 := (bw2.trans (b3.mono bw2.size)).trans (b4.mono (bw2.trans (b3.mono bw2.size)).size)
  have a5 := (a2.below b3).below b4
  go_upto_region 7 with (first
    | ((with_reducible refine wpList_loadG 54 a5 ?_ ?_ _ 4 ?_ Tryd.underlying54 ?_ ?_ ?_); rfl; rfl; rfl; rfl; kernel_rfl)
    | ((with_reducible refine wpList_loadG 54 a4 ?_ ?_ _ 4 ?_ Tryd.underlying54 ?_ ?_ ?_); rfl; rfl; rfl; rfl; kernel_rfl)
    | (go_at_call 28; refine (HC.out w4).mono ?_; rintro e w5 ⟨rfl, b5⟩))
  have bw5 := bw4.trans (b5.mono bw4.size)
  go_wp2_with fail
  refine wp_region_rel [] Ext (by kernel_rfl) (by kernel_rfl) (by kernel_rfl) Ext.refl Ext.trans (by intro p hp; cases hp) ?_
  refine relPure Ext.refl rfl rfl rfl rfl (c := .agg (hcs x)) (fun w hw => exec_loadAv (((aW.below b1).below b2 |>.below b3 |>.below b4 |>.below b5).below hw.drew) _ _ rfl rfl _ 32 hx32.out Tryd.underlying24 rfl (by kernel_rfl)) (by simp only [List.set_cons_succ, List.set_cons_zero]; rfl) ?_
  refine relCall1 rfl rfl rfl rfl (c := .agg (uc N).toArray) 29 #[.agg (hcs x)] (fun w => by go_simp) (fun w hw => (HN.out w).mono ?_) (by simp only [List.set_cons_succ, List.set_cons_zero]; rfl) ?_
  · rintro e w' ⟨rfl, hb⟩
    exact ⟨rfl, hb⟩
  refine relPure Ext.refl rfl rfl rfl rfl (c := .agg (uc t).toArray) (fun w hw => exec_loadAv ((a5.below b5).below hw.drew) _ _ rfl rfl _ 4 rfl Tryd.underlying54 rfl (by kernel_rfl)) (by simp only [List.set_cons_succ, List.set_cons_zero]; rfl) ?_
  refine relCall1 rfl rfl rfl rfl (c := .int .i64 c2) 28 #[.agg (uc N).toArray, .agg (uc t).toArray] (fun w => by go_simp) (fun w hw => (HD.out w).mono ?_) (by simp only [List.set_cons_succ, List.set_cons_zero]; rfl) ?_
  · rintro e w' ⟨rfl, hb⟩
    exact ⟨rfl, hb⟩
  refine relPure Ext.refl rfl rfl rfl rfl (c := .bool false) (fun w _ => by go_simp; first | done | rfl | exact td2 | omega) (by simp only [List.set_cons_succ, List.set_cons_zero]; rfl) ?_
  refine relEnd fun w6 hw6 => fill_end ?_
  go_wp2
  go_ret
  exact ⟨rfl, bw5.trans (hw6.drew.mono bw5.size)⟩
theorem Meets (x : List UInt8) (hx : x.length = 32) (b l : Nat) (hb : b < 4294967296) (hl : l < 4294967296) (w : World) : Calls Tryd.prog 11 #[.agg (hcs x), .int .u32 (b : Int), .int .u32 (l : Int)] w fun e w' => e = .returned (.int .i64 (mMeets x b l : Int)) ∧ Below w.heap.size w w' := by
  cases h1 : mExp b with
  | none =>
    rw [show mMeets x b l = 7 by rw [mMeets, h1]]
    exact Meets_n1 x b l hb h1 w
  | some t =>
    cases h2 : mExp l with
    | none =>
      rw [show mMeets x b l = 7 by rw [mMeets, h1]; dsimp only; rw [h2]]
      exact Meets_n2 x hx b l hb hl t h1 h2 w
    | some u =>
      by_cases h3 : u < t
      · rw [show mMeets x b l = 7 by rw [mMeets, h1]; dsimp only; rw [h2]; dsimp only; rw [if_pos h3]]
        exact Meets_n3 x hx b l hb hl t h1 u h2 h3 w
      · by_cases h4 : t < Cm.le x
        · rw [show mMeets x b l = 6 by rw [mMeets, h1]; dsimp only; rw [h2]; dsimp only; rw [if_neg h3, if_pos h4]]
          exact Meets_n4 x hx b l hb hl t h1 u h2 h3 h4 w
        · rw [show mMeets x b l = 0 by rw [mMeets, h1]; dsimp only; rw [h2]; dsimp only; rw [if_neg h3, if_neg h4]]
          exact Meets_n5 x hx b l hb hl t h1 u h2 h3 h4 w
end Go.Proofs.YtjgdmpbaikhflaaDoor
